/-
  PriorityBack: what its law leans on, part 1.
-/
import Derived.Laws.RangeAny
import Derived.Lib.SplitLaws
import Derived.Test.YthmfkkpmjcbgeaaGreatDoorEvE
import Derived.Test.YthmfkkpmjcbgeaaGreatDoorEvRun
import Derived.Test.YthmfkkpmjcbgeaaGreatDoorEvX
import Derived.Test.YthmfkkpmjcbgeaaGreatDoorGood
import Derived.Test.YthmfkkpmjcbgeaaGreatDoorRead
/-
 Ways to show what a function of the program gives: how data stand for Go's values; steps; loops.
-/
namespace Go.Proofs.YthmfkkpmjcbgeaaGreatDoor.Co
open Go Go.Evl
abbrev I (x : Int) : V := .d (.int .i64 x)
abbrev B (b : Bool) : V := .d (.bool b)
abbrev S (s : List UInt8) : V := .d (.str s)
abbrev DI (x : Int) : D := .int .i64 x
abbrev LI (l : List Int) : V := .d (.list l.length (l.map DI))
theorem wrap_id {x : Int} (h : -9223372036854775808 ≤ x ∧ x ≤ 9223372036854775807) : IntKind.i64.wrap x = x := by
 have hb : IntKind.i64.wrap x = (if x % 18446744073709551616 ≥ 9223372036854775808 then x % 18446744073709551616 - 18446744073709551616 else x % 18446744073709551616) := by
  simp [IntKind.wrap, IntKind.signed, IntKind.bits]
 rw [hb]
 split <;> omega
section
variable {E : Oracle}
theorem Wr.keep {x : Int} {K : Int → Prop} (h : -9223372036854775808 ≤ x ∧ x ≤ 9223372036854775807) (k : K x) : Wr .i64 x K := ⟨by rw [wrap_id h]; exact k⟩
theorem Br.tt {a b : Prop} (h : a) : Br true a b := ⟨fun _ => h, fun h => nomatch h⟩
theorem Br.ff {a b : Prop} (h : b) : Br false a b := ⟨fun h => (nomatch h), fun _ => h⟩
theorem Cmp.tt {p a b : Prop} (hp : p) (h : a) : Cmp p a b := ⟨fun _ => h, fun hn => absurd hp hn⟩
theorem Cmp.ff {p a b : Prop} (hp : ¬ p) (h : b) : Cmp p a b := ⟨fun hn => absurd hn hp, fun _ => h⟩
theorem Rem.pos {a b : Int} {K : Int → Prop} (hb : 0 < b ∧ 0 ≤ a) (k : K (a % b)) : Rem a b K := ⟨by omega, by rw [Int.tmod_eq_emod_of_nonneg hb.2]; exact k⟩
theorem Rem.any {a b : Int} {K : Int → Prop} (hb : 0 < b) (k : ∀ r, -b < r ∧ r < b → r = a.tmod b → K r) : Rem a b K :=
 by
 refine ⟨by omega, k _ ⟨?_, Int.tmod_lt_of_pos a hb⟩ rfl⟩
 rw [Int.tmod_eq_emod]
 have h1 := Int.emod_nonneg a (show b ≠ 0 by omega)
 have h2 := Int.emod_lt_of_pos a hb
 split
 ·omega
 ·rename_i hn
  have : a % b ≠ 0 := fun e => hn (.inr (Int.dvd_of_emod_eq_zero e))
  omega
theorem Quo.pos {a b : Int} {K : Int → Prop} (hb : 0 < b ∧ 0 ≤ a ∧ a ≤ 9223372036854775807) (k : K (a / b)) : Quo .i64 a b K := by
 have h1 : a / b ≤ a := Int.ediv_le_self b hb.2.1
 have h2 : 0 ≤ a / b := Int.ediv_nonneg hb.2.1 (by omega)
 exact ⟨by omega, by rw [Int.tdiv_eq_ediv_of_nonneg hb.2.1, wrap_id (by omega)]; exact k⟩
theorem Pick.now {cs : List D} {off : Nat} {K : D → Prop} {d : D} (h : cs[off]? = some d) (k : K d) : Pick cs off K := ⟨⟨d, h, k⟩⟩
theorem PickV.now {cs : List V} {off : Nat} {K : V → Prop} {d : V} (h : cs[off]? = some d) (k : K d) : PickV cs off K := ⟨⟨d, h, k⟩⟩
theorem PickW.now {cs ds : List D} {off n : Nat} {K : List D → Prop} (hl : off + n ≤ cs.length) (h : win cs off n = ds) (k : K ds) : PickW cs off n K := ⟨hl, by rw [h]; exact k⟩
theorem Ya {a b : Prop} (h : a) : Br true a b := Br.tt h
theorem Yb {a b : Prop} (h : b) : Br false a b := Br.ff h
theorem Yi {cs : List V} {off : Nat} {K : V → Prop} {d : V} (h : cs[off]? = some d) (k : K d) : PickV cs off K := PickV.now h k
theorem Yj {cs : List D} {off : Nat} {K : D → Prop} {d : D} (h : cs[off]? = some d) (k : K d) : Pick cs off K := Pick.now h k
theorem Yk {b : Bool} {k : Prop} (h : b = true) (hk : k) : Chk b k := ⟨h, hk⟩
theorem Yc' {p k : Prop} (hp : p) (h : k) : Need p k := ⟨hp, h⟩
theorem Yz {p q : Prop} (k : q) (h : q → p := by first | exact Ya | exact Yb | exact Yc' (by first | omega | (simp; done) | (simp; omega)) | exact Wr.keep (by omega) | exact Cmp.tt (by first | omega | decide) | exact Cmp.ff (by first | omega | decide) | exact Rem.pos (by omega) | exact Quo.pos (by omega) | exact Yi rfl | exact Yj rfl | exact Yk rfl | exact PickW.now (by first | omega | decide) rfl) : p := h k
theorem Bounds.at {n : Nat} {l h : Int} {K : Nat → Nat → Prop} (a b : Nat) (hl : l = a) (hh : h = b) (hb : a ≤ b ∧ b ≤ n) (k : K a b) : Bounds n l h K := by
 subst hl
 subst hh
 exact ⟨by omega, k⟩
theorem Pick.int {l : List Int} {i : Int} {K : D → Prop} (h : 0 ≤ i ∧ i < l.length) (k : K (DI (l.getD i.toNat 0))) : Pick (l.map DI) (i.toNat * 1) K := by
 refine ⟨⟨_, ?_, k⟩⟩
 have hi : i.toNat < l.length := by omega
 simp [List.getD, hi]
theorem LoopW.to {cx : Cx} {live : List Nat} {keep : List Evl.Id} {body : C} {e1 e2 : Env} {m1 m2 : Mem} {K : Ex → Env → Mem → Prop} (h : LoopW E cx live keep body e1 m1 K) (he : e1 = e2) (hm : m1 = m2) : LoopW E cx live keep body e2 m2 K := by
 subst he; subst hm; exact h
theorem LoopW.up (g : Good E) {cx : Cx} {live : List Nat} {keep : List Evl.Id} {body : C} {K : Ex → Env → Mem → Prop} (env : Nat → Env) (mem : Nat → Mem) (b : Nat)
  (h : ∀ k, k ≤ b → (k < b → LoopW E cx live keep body (env (k + 1)) (mem (k + 1)) K) → wpC E cx body (env k) (mem k) (againK E cx live keep body K)) : ∀ a, a ≤ b → LoopW E cx live keep body (env a) (mem a) K := by
 have key : ∀ n a, a + n = b → LoopW E cx live keep body (env a) (mem a) K := by
  intro n
  induction n with
  | zero => exact fun a ha => LoopW.step g.lim (h a (by omega) fun hlt => absurd hlt (by omega))
  | succ n ih => exact fun a ha => LoopW.step g.lim (h a (by omega) fun _ => ih (a + 1) (by omega))
 exact fun a ha => key (b - a) a (by omega)
theorem LoopW.upP (g : Good E) {cx : Cx} {live : List Nat} {keep : List Evl.Id} {body : C} {K : Ex → Env → Mem → Prop} (env : Nat → Env) (mem : Nat → Mem) (P : Nat → Prop) (b : Nat)
  (h : ∀ k, k ≤ b → P k → (k < b → P (k + 1) → LoopW E cx live keep body (env (k + 1)) (mem (k + 1)) K) → wpC E cx body (env k) (mem k) (againK E cx live keep body K)) : ∀ a, a ≤ b → P a → LoopW E cx live keep body (env a) (mem a) K := by
 have key : ∀ n a, a + n = b → P a → LoopW E cx live keep body (env a) (mem a) K := by
  intro n
  induction n with
  | zero => exact fun a ha hp => LoopW.step g.lim (h a (by omega) hp fun hlt => absurd hlt (by omega))
  | succ n ih => exact fun a ha hp => LoopW.step g.lim (h a (by omega) hp fun _ hp' => ih (a + 1) (by omega) hp')
 exact fun a ha => key (b - a) a (by omega)
theorem LoopW.by {σ : Type} (g : Good E) {cx : Cx} {live : List Nat} {keep : List Evl.Id} {body : C} {K : Ex → Env → Mem → Prop} (inv : σ → Prop) (env : σ → Env) (mem : σ → Mem) (μ : σ → Nat)
  (h : ∀ s, inv s → (∀ s', inv s' → μ s' < μ s → LoopW E cx live keep body (env s') (mem s') K) → wpC E cx body (env s) (mem s) (againK E cx live keep body K)) : ∀ s, inv s → LoopW E cx live keep body (env s) (mem s) K := by
 have key : ∀ n s, μ s < n → inv s → LoopW E cx live keep body (env s) (mem s) K := by
  intro n
  induction n with
  | zero => exact fun s hs => absurd hs (Nat.not_lt_zero _)
  | succ n ih => exact fun s hs hi => LoopW.step g.lim (h s hi fun s' hi' hlt => ih s' (by omega) hi')
 exact fun s hi => key (μ s + 1) s (Nat.lt_succ_self _) hi
theorem Good.fn (g : Good E) {f : Nat} {args : List V} {r : V} {cf : CF} (hc : code f = some cf) (hX : ext f = none) (h : bodyW E 0 cf args [] fun v m' => thawW m' v fun d => Ret d r) : Fc E f args r := Fc.enter g.lim hX hc h
def sameR : V → V → Bool
 | .d a, .d b => sameD a b
 | .tup as1, .tup bs =>
  match allD as1, allD bs with
  | some xs, some ys => sameDL xs ys
  | _, _ => false
 | _, _ => false
theorem sameR_eq (a b : V) (h : sameR a b = true) : a = b := by
 unfold sameR at h
 split at h
 ·rw [sameD_eq _ _ h]
 ·split at h
  ·rename_i h1 h2
   rw [sameDL_eq _ _ h] at h1
   rw [allD_eq _ _ _ h1 h2]
  ·cases h
 ·cases h
def isRes (o : Option Res) (r : V) : Bool :=
 match o with
 | some (.val v m) =>
  (match thaw m v with
  | some x => sameR x r
  | none => false)
 | _ => false
theorem Good.compR (g : Good E) (n : Nat) {f : Nat} {args : List V} {r : V} (h : isRes (iter code ext n (.call 0 f args [])) r = true) : Fc E f args r := by
 cases hr : iter code ext n (.call 0 f args []) with
 | none => rw [hr] at h; cases h
 | some x =>
  rw [hr] at h
  unfold isRes at h
  split at h
  ·rename_i v m e
   obtain rfl := Option.some.inj e
   split at h
   ·rename_i y hy
    exact ⟨_, _, g.lim.of_iter n _ _ hr, by rw [hy, sameR_eq _ _ h]⟩
   ·cases h
  ·cases h
end
theorem CallS.ext {E : Oracle} (g : Good E) {f : Nat} {args : List V} {cx : Cx} {slot : Nat} {m : Mem} {K : V → Mem → Prop} {v : V} {x : List V → Mem → Option (V × Mem)} {p : V × Mem} (hX : ext f = some x) (h : x args [] = some (v, [])) (hs : Evl.settle cx slot 0 m [] v = some p) (hk : K p.1 p.2) : CallS E f args cx slot m K :=
 ⟨v, [], p, by rw [g.lim.fix]; simp only [Go.Evl.step, hX, h]; rfl, hs, hk⟩
end Go.Proofs.YthmfkkpmjcbgeaaGreatDoor.Co
/-
 Periods: errors, masks, moves: what the program's functions and the reference's give.
-/
namespace Go.Proofs.YthmfkkpmjcbgeaaGreatDoor.Co
open Go Go.Evl
def rng (n a b : Int) : Int := if n < a ∨ b < n then 3 else 0
def firstI : List Int → Int
 | [] => 0
 | x :: r => if x = 0 then firstI r else x
theorem rng_zero {n a b : Int} : rng n a b = 0 ↔ a ≤ n ∧ n ≤ b := by unfold rng; split <;> omega
section
variable {E : Oracle} (g : Good E)
include g
omit g in
theorem firstI_drop (l : List Int) (k : Nat) (h : k < l.length) : firstI (l.drop k) = if l.getD k 0 = 0 then firstI (l.drop (k + 1)) else l.getD k 0 := by
 rw [List.drop_eq_getElem_cons h]
 simp [firstI, List.getD, h]
theorem r_CheckRange (n a b : Int) : Fc E n_ref01_CheckRange [I n, I a, I b] (I (rng n a b)) := by
 refine g.fn rfl rfl ?_
 repeat' ((conv => whnf); first
 | refine Yz ?_
  | (refine Cmp.mk (fun h => ?_) (fun h => ?_)) | (refine Rem.any (by omega) (fun r hr he => ?_)) | (refine Br.mk (fun h => ?_) (fun h => ?_))
  | (refine Ret.mk ?_))
 all_goals (simp only [V.d.injEq, D.int.injEq, true_and, rng]; simp_all)
theorem r_First (l : List Int) (hl : l.length ≤ 140737488355328) : Fc E n_ref01_First [LI l] (I (firstI l)) := by
 refine g.fn rfl rfl ?_
 conv => whnf
 refine LoopW.upP g (fun k => [(0, LI l), (3, I k)]) (fun _ => []) (fun k => firstI l = firstI (l.drop k)) l.length (fun k hk hp ih => ?_) 0 (Nat.zero_le _) (by simp)
 by_cases hlt : k < l.length
 ·have hd := firstI_drop l k hlt
  repeat' ((conv => whnf); first
  | refine Yz ?_
   | (refine Pick.int (by omega) ?_)
   | (refine Cmp.mk (fun h => ?_) (fun h => ?_)) | (refine Rem.any (by omega) (fun r hr he => ?_)) | (refine Br.mk (fun h => ?_) (fun h => ?_))
   | (refine LoopW.to (ih hlt ?_) ?_ rfl)
   | (refine Ret.mk ?_))
  all_goals simp_all
 ·have : l.drop k = [] := List.drop_eq_nil_of_le (by omega)
  repeat' ((conv => whnf); first
  | refine Yz ?_
   | (refine Ret.mk ?_))
  simp [hp, this, firstI]
end
end Go.Proofs.YthmfkkpmjcbgeaaGreatDoor.Co
/-
 The laws' parameters, as data.
-/
namespace Go.Proofs.YthmfkkpmjcbgeaaGreatDoor.Co
open Go Go.Evl
set_option maxRecDepth 100000
def i64 (n : Int) : Prop := -9223372036854775808 ≤ n ∧ n ≤ 9223372036854775807
theorem wf_i64 {n : Int} (h : (Lit.int .i64 n).wf = true) : i64 n := by
 simp only [Lit.wf, Bool.and_eq_true, decide_eq_true_eq] at h
 exact h
section
variable {P : Program} {n : Nat} {t : Nat} {ds : List D} {x : D}
theorem fit_i {k : IntKind} (ht : P.underlying t = some (.int k)) (h : fit P (n + 1) t ds) : ∃ i, ds = [.int k i] ∧ (Lit.int k i).wf = true := by
 simp only [fit, ht] at h; exact h
theorem fit_b (ht : P.underlying t = some .bool) (h : fit P (n + 1) t ds) : ∃ b, ds = [.bool b] := by
 simp only [fit, ht] at h; exact h
theorem fit_s (ht : P.underlying t = some .string) (h : fit P (n + 1) t ds) : ∃ s, ds = [.str s] ∧ s.length ≤ maxLen := by
 simp only [fit, ht] at h; exact h
theorem fit_l {e : Nat} (ht : P.underlying t = some (.slice e)) (h : fit P (n + 1) t ds) : ∃ m cs, ds = [.list m cs] ∧ m ≤ maxLen ∧ fitAll (fit P n) (List.replicate m e) cs := by
 simp only [fit, ht] at h; exact h
theorem fit_st {fs : Array Field} (ht : P.underlying t = some (.struct fs)) (h : fit P (n + 1) t ds) : fitAll (fit P n) (fs.toList.map (·.type)) ds := by
 simp only [fit, ht] at h; exact h
theorem arg_i {k : IntKind} (ht : P.underlying t = some (.int k)) (h : fitArg P t x) : ∃ i, x = .int k i ∧ (Lit.int k i).wf = true := by
 simp only [fitArg, ht] at h
 obtain ⟨i, e, hw⟩ := fit_i (n := 7) ht h
 exact ⟨i, by simpa using e, hw⟩
theorem arg_s (ht : P.underlying t = some .string) (h : fitArg P t x) : ∃ s, x = .str s ∧ s.length ≤ maxLen := by
 simp only [fitArg, ht] at h
 obtain ⟨i, e, hw⟩ := fit_s (n := 7) ht h
 exact ⟨i, by simpa using e, hw⟩
theorem arg_st {fs : Array Field} (ht : P.underlying t = some (.struct fs)) (h : fitArg P t x) : ∃ ds, x = .agg ds ∧ fitAll (fit P 7) (fs.toList.map (·.type)) ds := by
 simp only [fitArg, ht] at h
 obtain ⟨ds, rfl, h⟩ := h
 exact ⟨ds, rfl, fit_st ht h⟩
end
theorem fit_int {k : Nat} {ds : List D} (h : fit Tryz.prog (k + 1) 3 ds) : ∃ n, ds = [DI n] ∧ i64 n := by
 obtain ⟨n, rfl, hw⟩ := fit_i Tryz.underlying3 h
 exact ⟨n, rfl, wf_i64 hw⟩
theorem args3 {P : Program} {t u v : Nat} {xs : List D} (h : fitArgs P [t, u, v] xs) : ∃ x y z, xs = [x, y, z] ∧ fitArg P t x ∧ fitArg P u y ∧ fitArg P v z := by
 obtain ⟨x, _, rfl, h1, y, _, rfl, h2, z, _, rfl, h3, rfl⟩ := h
 exact ⟨x, y, z, rfl, h1, h2, h3⟩
end Go.Proofs.YthmfkkpmjcbgeaaGreatDoor.Co
/-
 Names: what both IsName give.
-/
namespace Go.Proofs.YthmfkkpmjcbgeaaGreatDoor.Co
open Go Go.Evl
theorem PickB.at {s : List UInt8} {i : Nat} {K : UInt8 → Prop} (k : Nat) (hi : i = k) (h : k < s.length) (hk : K (s.getD k 0)) : PickB s i K := by
 subst hi
 exact ⟨⟨_, by simp [List.getD, h], hk⟩⟩
theorem NextW.asc {s : List UInt8} {k : Nat} {a : Int → Nat → Prop} {b : Prop} (h : k < s.length) (ha : (s.getD k 0).toNat < 128) (hk : a (s.getD k 0).toNat 1) : NextW s k a b := by
 refine ⟨fun _ => ?_, fun hn => absurd h hn⟩
 have e : (s.getD k 0) = s[k] := by simp [List.getD, h]
 have hd := decode_ascii ⟨s.toArray⟩ k (by simpa [ByteArray.size] using h) (by rw [e] at ha; exact ha)
 rw [hd]
 rw [e] at hk
 exact hk
theorem NextW.high {s : List UInt8} {k : Nat} {a : Int → Nat → Prop} {b : Prop} (h : k < s.length) (ha : 128 ≤ (s.getD k 0).toNat) (hk : ∀ (c : Int) (w : Nat), 128 ≤ c → 1 ≤ w → a c w) : NextW s k a b := by
 refine ⟨fun _ => ?_, fun hn => absurd h hn⟩
 have e : (s.getD k 0) = s[k] := by simp [List.getD, h]
 have hd := decode_high ⟨s.toArray⟩ k (by simpa [ByteArray.size] using h) (by rw [e] at ha; exact ha)
 exact hk _ _ (by omega) hd.2
theorem NextW.end' {s : List UInt8} {k : Nat} {a : Int → Nat → Prop} {b : Prop} (h : s.length ≤ k) (hk : b) : NextW s k a b := ⟨fun hn => absurd hn (by omega), fun _ => hk⟩
def okCh (k : Nat) (b : UInt8) : Prop := (65 ≤ b.toNat ∧ b.toNat ≤ 90) ∨ (97 ≤ b.toNat ∧ b.toNat ≤ 122) ∨ (0 < k ∧ (b.toNat = 95 ∨ (48 ≤ b.toNat ∧ b.toNat ≤ 57)))
instance (k : Nat) (b : UInt8) : Decidable (okCh k b) := by unfold okCh; infer_instance
def nameP (s : List UInt8) : Prop := 0 < s.length ∧ s.length ≤ 24 ∧ ∀ i, i < s.length → okCh i (s.getD i 0)
instance (s : List UInt8) : Decidable (nameP s) := by unfold nameP; infer_instance
def isNameB (s : List UInt8) : Bool := decide (nameP s)
theorem isName_no {s : List UInt8} {k : Nat} (hk : k < s.length) (h : ¬ okCh k (s.getD k 0)) : isNameB s = false := decide_eq_false fun hn => h (hn.2.2 k hk)
section
variable {E : Oracle} (g : Good E)
include g
theorem s_IsName (s : List UInt8) : Fc E n_calendar_IsName [S s] (B (isNameB s)) := by
 refine g.fn rfl rfl ?_
 by_cases h0 : 0 < s.length ∧ s.length ≤ 24
 ·repeat' ((conv => whnf); first
 | refine Yz ?_)
  refine LoopW.to (LoopW.upP g (fun _ => [(15, .it ⟨0, 15, 0⟩)]) (fun k => [(⟨0, 15, 0⟩, .iter s k)]) (fun k => ∀ i, i < k → okCh i (s.getD i 0)) s.length (fun k hk hp ih => ?_) 0 (Nat.zero_le _) (fun i hi => by omega)) rfl rfl
  by_cases hlt : k < s.length
  ·by_cases ha : (s.getD k 0).toNat < 128
   ·by_cases hok : okCh k (s.getD k 0)
    ·have hp' : ∀ i, i < k + 1 → okCh i (s.getD i 0) := fun i hi => by
      by_cases e : i = k
      ·subst e; exact hok
      ·exact hp i (by omega)
     have ih := ih hlt hp'
     unfold okCh at hok
     repeat' ((conv => whnf); first
     | refine Yz ?_
      | (refine NextW.asc hlt ha ?_)
      | (refine Cmp.mk (fun h => ?_) (fun h => ?_)) | (refine Rem.any (by omega) (fun r hr he => ?_)) | (refine Br.mk (fun h => ?_) (fun h => ?_))
      | (refine LoopW.to ih rfl rfl)
      | (exfalso; omega))
    ·have hno := isName_no hlt hok
     unfold okCh at hok
     rw [hno]
     repeat' ((conv => whnf); first
     | refine Yz ?_
      | (refine NextW.asc hlt ha ?_)
      | (refine Cmp.mk (fun h => ?_) (fun h => ?_)) | (refine Rem.any (by omega) (fun r hr he => ?_)) | (refine Br.mk (fun h => ?_) (fun h => ?_))
      | (refine Ret.mk rfl)
      | (exfalso; omega))
   ·have hno : isNameB s = false := isName_no hlt (by unfold okCh; omega)
    rw [hno]
    repeat' ((conv => whnf); first
    | refine Yz ?_
     | (refine NextW.high hlt (by omega) (fun c w hc hw => ?_))
     | (refine Cmp.mk (fun h => ?_) (fun h => ?_)) | (refine Rem.any (by omega) (fun r hr he => ?_)) | (refine Br.mk (fun h => ?_) (fun h => ?_))
     | (refine Ret.mk rfl)
     | (exfalso; omega))
  ·have hk' : k = s.length := by omega
   subst hk'
   have hyes : isNameB s = true := decide_eq_true ⟨h0.1, h0.2, hp⟩
   rw [hyes]
   repeat' ((conv => whnf); first
   | refine Yz ?_
    | (refine NextW.end' (Nat.le_refl _) ?_)
    | (refine Ret.mk rfl))
 ·have hno : isNameB s = false := decide_eq_false fun hn => h0 ⟨hn.1, hn.2.1⟩
  rw [hno]
  repeat' ((conv => whnf); first
  | refine Yz ?_
   | (refine Cmp.mk (fun h => ?_) (fun h => ?_)) | (refine Rem.any (by omega) (fun r hr he => ?_)) | (refine Br.mk (fun h => ?_) (fun h => ?_))
   | (refine Ret.mk rfl)
   | (exfalso; omega))
theorem r_IsName (s : List UInt8) : Fc E n_ref01_IsName [S s] (B (isNameB s)) := by
 refine g.fn rfl rfl ?_
 by_cases h0 : 0 < s.length ∧ s.length ≤ 24
 ·repeat' ((conv => whnf); first
 | refine Yz ?_)
  refine LoopW.to (LoopW.upP g (fun k => [(0, S s), (3, I k)]) (fun _ => []) (fun k => ∀ i, i < k → okCh i (s.getD i 0)) s.length (fun k hk hp ih => ?_) 0 (Nat.zero_le _) (fun i hi => by omega)) rfl rfl
  by_cases hlt : k < s.length
  ·by_cases hok : okCh k (s.getD k 0)
   ·have hp' : ∀ i, i < k + 1 → okCh i (s.getD i 0) := fun i hi => by
     by_cases e : i = k
     ·subst e; exact hok
     ·exact hp i (by omega)
    have ih := ih hlt hp'
    unfold okCh at hok
    repeat' ((conv => whnf); first
    | refine Yz ?_
     | (refine PickB.at k (by omega) hlt ?_)
     | (refine Cmp.mk (fun h => ?_) (fun h => ?_)) | (refine Rem.any (by omega) (fun r hr he => ?_)) | (refine Br.mk (fun h => ?_) (fun h => ?_))
     | (refine LoopW.to ih rfl rfl)
     | (exfalso; omega))
   ·have hno := isName_no hlt hok
    unfold okCh at hok
    rw [hno]
    repeat' ((conv => whnf); first
    | refine Yz ?_
     | (refine PickB.at k (by omega) hlt ?_)
     | (refine Cmp.mk (fun h => ?_) (fun h => ?_)) | (refine Rem.any (by omega) (fun r hr he => ?_)) | (refine Br.mk (fun h => ?_) (fun h => ?_))
     | (refine Ret.mk rfl)
     | (exfalso; omega))
  ·have hk' : k = s.length := by omega
   subst hk'
   have hyes : isNameB s = true := decide_eq_true ⟨h0.1, h0.2, hp⟩
   rw [hyes]
   repeat' ((conv => whnf); first
   | refine Yz ?_
    | (refine Ret.mk rfl))
 ·have hno : isNameB s = false := decide_eq_false fun hn => h0 ⟨hn.1, hn.2.1⟩
  rw [hno]
  repeat' ((conv => whnf); first
  | refine Yz ?_
   | (refine Cmp.mk (fun h => ?_) (fun h => ?_)) | (refine Rem.any (by omega) (fun r hr he => ?_)) | (refine Br.mk (fun h => ?_) (fun h => ?_))
   | (refine Ret.mk rfl)
   | (exfalso; omega))
end
end Go.Proofs.YthmfkkpmjcbgeaaGreatDoor.Co
/-
 Digits: their bytes, numbers in so many digits; bytes that are added and taken away.
-/
namespace Go.Proofs.YthmfkkpmjcbgeaaGreatDoor.Co
open Go Go.Evl
section
variable {E : Oracle} (g : Good E)
include g
theorem s_Itoa (n : Int) (h : 0 ≤ n ∧ n ≤ 9223372036854775807) : Fc E n_strconv_Itoa [I n] (S (digitsF 20 n.toNat)) :=
 Fc.extern g.lim (x := itoaX) rfl (v := S (digitsF 20 n.toNat)) (m' := []) (by simp only [itoaX]; rw [if_pos h]) rfl
end
end Go.Proofs.YthmfkkpmjcbgeaaGreatDoor.Co
/-
 Messages: numbers of so many digits and minutes, printed and read.
-/
namespace Go.Proofs.YthmfkkpmjcbgeaaGreatDoor.Co
open Go Go.Evl
end Go.Proofs.YthmfkkpmjcbgeaaGreatDoor.Co
/-
 Is a weekday in a mask? Calls whose results live in the caller's memory.
-/
namespace Go.Proofs.YthmfkkpmjcbgeaaGreatDoor.Co
open Go Go.Evl
theorem CallS.of {E : Oracle} {f : Nat} {args : List V} {cx : Cx} {slot : Nat} {m : Mem} {K : V → Mem → Prop} (h : In E 0 f args [] fun v m' => Some' (Go.Evl.settle cx slot 0 m m' v) fun p => K p.1 p.2) : CallS E f args cx slot m K := by
 obtain ⟨v, m', h1, p, h2, h3⟩ := h
 exact ⟨v, m', p, h1, h2, h3⟩
end Go.Proofs.YthmfkkpmjcbgeaaGreatDoor.Co
/-
 Messages: requests and lines, checked.
-/
namespace Go.Proofs.YthmfkkpmjcbgeaaGreatDoor.Co
open Go Go.Evl
structure Rqt where
 (nm ca ki te pa li : List UInt8)
 (fr to da mi se si no : Int)
 deriving DecidableEq
def Rqt.cells (q : Rqt) : List D := [.str q.nm, .str q.ca, .str q.ki, .str q.te, .str q.pa, .str q.li, DI q.fr, DI q.to, DI q.da, DI q.mi, DI q.se, DI q.si, DI q.no]
structure Lnt where
 ac : List UInt8
 rq : Rqt
def Lnt.cells (l : Lnt) : List D := .str l.ac :: l.rq.cells
theorem Lnt.cells_length (l : Lnt) : l.cells.length = 14 := rfl
theorem Rqt.cells_length (q : Rqt) : q.cells.length = 13 := rfl
def nmE (s : List UInt8) : Int := if (!isNameB s) = true then 8 else 0
section
variable {E : Oracle} (g : Good E)
include g
set_option maxRecDepth 100000
theorem r_HasWord (l : List (List UInt8)) (s : List UInt8) (hl : l.length ≤ 140737488355328) : Fc E n_ref01_HasWord [.d (.list l.length (l.map D.str)), S s] (B (decide (s ∈ l))) := by
 refine g.fn rfl rfl ?_
 conv => whnf
 refine LoopW.upP g (fun k => [(0, .d (.list l.length (l.map D.str))), (1, S s), (5, I k)]) (fun _ => []) (fun k => ∀ i, i < k → ∀ x, l[i]? = some x → x ≠ s) l.length (fun k hk hp ih => ?_) 0 (Nat.zero_le _) (fun i hi => absurd hi (Nat.not_lt_zero _))
 by_cases hlt : k < l.length
 ·have hg : (l.map D.str)[((k : Int)).toNat * 1]? = some (.str l[k]) := by simp [hlt]
  by_cases he : l[k] = s
  ·rw [decide_eq_true (by rw [← he]; exact List.getElem_mem hlt)]
   repeat' ((conv => whnf); first
   | refine Yz ?_
    | (refine Pick.now hg ?_)
    | (refine Cmp.tt he ?_)
    | (refine Ret.mk rfl))
  ·have ih := ih hlt fun i hi x hx => by
    by_cases e : i = k
    ·subst e
     rw [List.getElem?_eq_getElem hlt] at hx
     rw [← Option.some.inj hx]; exact he
    ·exact hp i (by omega) x hx
   repeat' ((conv => whnf); first
   | refine Yz ?_
    | (refine Pick.now hg ?_)
    | (refine Cmp.ff he ?_)
    | (refine LoopW.to ih rfl rfl))
 ·have hno : s ∉ l := fun hm => by
   obtain ⟨i, hi, e⟩ := List.getElem_of_mem hm
   exact hp i (by omega) s (by rw [List.getElem?_eq_getElem hi, e]) rfl
  rw [decide_eq_false hno]
  repeat' ((conv => whnf); first
  | refine Yz ?_
   | (refine Ret.mk rfl))
end
end Go.Proofs.YthmfkkpmjcbgeaaGreatDoor.Co
/-
 Messages: requests and lines as a law's parameters; short ones.
-/
namespace Go.Proofs.YthmfkkpmjcbgeaaGreatDoor.Co
open Go Go.Evl
set_option maxRecDepth 100000
theorem fit_str {k : Nat} {ds : List D} (h : fit Tryz.prog (k + 1) 9 ds) : ∃ s, ds = [.str s] := by
 obtain ⟨s, rfl, _⟩ := fit_s Tryz.underlying9 h
 exact ⟨s, rfl⟩
end Go.Proofs.YthmfkkpmjcbgeaaGreatDoor.Co
/-
 Texts of masks: printed (all 128, computed by the kernel) and read.
-/
namespace Go.Proofs.YthmfkkpmjcbgeaaGreatDoor.Co
open Go Go.Evl
section
variable {E : Oracle} (g : Good E)
include g
set_option maxRecDepth 100000
omit g in
def byD (l : List UInt8) : List D := l.map fun b => D.int .u8 b.toNat
omit g in
theorem byD_app (a b : List UInt8) : byD (a ++ b) = byD a ++ byD b := by simp [byD]
omit g in
theorem byD_len (a : List UInt8) : (byD a).length = a.length := by simp [byD]
omit g in
theorem bytesD_eq (a : List UInt8) : Evl.bytesD a = byD a := rfl
omit g in
theorem stringX_row {bt et t n : Nat} {m : Mem} {o r : Evl.Id} {p : V} {xs : List D} {b : List UInt8} (h1 : Evl.look m o = some (.cells bt [p, .ref r 0 n n])) (h2 : Evl.look m r = some (.row false et 1 n xs)) (hn : n ≠ 0) (hb : Evl.bytesOf xs = some b) : stringX bt et [.ptr o 0 t] m = some (.d (.str b), Evl.upd m r .gone) := by
 simp only [stringX, h1, h2, hb]
 simp [hn]
omit g in
theorem bytesOf_byD : ∀ l : List UInt8, Evl.bytesOf (byD l) = some l
 | [] => rfl
 | b :: r => by
  have h := b.toNat_lt
  show (if 0 ≤ (b.toNat : Int) ∧ (b.toNat : Int) < 256 then (Evl.bytesOf (byD r)).map (UInt8.ofNat ((b.toNat : Int)).toNat :: ·) else none) = _
  rw [if_pos (by omega), bytesOf_byD r]
  simp
end
end Go.Proofs.YthmfkkpmjcbgeaaGreatDoor.Co
/-
 The parts of a text between the places of one byte: strings.Split's, told by recursion.
-/
namespace Go.Evl
open Go Go.Lib
def parts (b : UInt8) : List UInt8 → List (List UInt8)
 | [] => [[]]
 | x :: r => if x = b then [] :: parts b r else
  match parts b r with
  | [] => [[x]]
  | p :: q => (x :: p) :: q
theorem parts_ne (b : UInt8) (s : List UInt8) : parts b s ≠ [] := by
 cases s with
 | nil => simp [parts]
 | cons x r =>
  unfold parts
  split
  ·simp
  ·split <;> simp
theorem parts_len (b : UInt8) : ∀ s : List UInt8, (parts b s).length ≤ s.length + 1
 | [] => by simp [parts]
 | x :: r => by
  have ih := parts_len b r
  rw [parts]
  split
  ·simp; omega
  ·split
   ·simp
   ·rename_i h; rw [h] at ih; simp only [List.length_cons] at ih ⊢; omega
theorem splitK_parts (b : UInt8) : ∀ s : List UInt8, splitK [b] 0 (count s [b]) s = parts b s
 | [] => by
  have : count ([] : List UInt8) [b] = 0 := count_miss (by rw [index_one]; rfl)
  rw [this]; rfl
 | x :: r => by
  have ih := splitK_parts b r
  unfold parts
  by_cases h : x = b
  ·subst h
   have hi : index (x :: r) [x] = ((0 : Nat) : Int) := by rw [index_one]; simp [indexByte]
   have hc := count_hit (by simp) hi
   simp only [List.length_cons, List.length_nil, Nat.zero_add, List.drop_succ_cons, List.drop_zero] at hc
   rw [hc, Nat.add_comm 1, if_pos rfl, ← ih]
   simp only [splitK, hi, List.length_cons, List.length_nil]
   rfl
  ·rw [count_cons_ne x b r h, if_neg h, ← ih]
   have hx : (x == b) = false := by simpa using h
   generalize count r [b] = k
   cases k with
   | zero => rfl
   | succ k =>
    have hr : index (x :: r) [b] = if indexByte r b == -1 then -1 else indexByte r b + 1 := by rw [index_one]; simp [indexByte, hx]
    have hq : index r [b] = indexByte r b := index_one r b
    simp only [splitK, hr, hq]
    have hge := indexByte_ge r b
    by_cases hm : indexByte r b = -1
    ·simp [hm]
    ·obtain ⟨i, hi⟩ : ∃ i : Nat, indexByte r b = i := ⟨(indexByte r b).toNat, by omega⟩
     rw [hi]
     have e1 : (((i : Nat) : Int) == -1) = false := by simp
     have e2 : (((i : Nat) : Int) + 1 == -1) = false := by simp; omega
     have e3 : (((i : Nat) : Int) + 1).toNat = i + 1 := by omega
     simp only [e1, e2, e3, Bool.false_eq_true, if_false, Int.toNat_natCast, Nat.add_zero, List.take_succ_cons, List.length_cons, List.length_nil, Nat.zero_add, List.drop_succ_cons]
theorem splitD_parts (s : List UInt8) (b : UInt8) : splitD s [b] = parts b s := by
 unfold splitD
 rw [splitB_data]
 exact splitK_parts b s
def joined (b : UInt8) : List (List UInt8) → List UInt8
 | [] => []
 | [x] => x
 | x :: y :: r => x ++ b :: joined b (y :: r)
theorem join_joined (b : UInt8) : ∀ l : List (List UInt8), Lib.join l [b] = joined b l
 | [] => rfl
 | [x] => Lib.join_one x [b]
 | x :: y :: r => by
  have ih := join_joined b (y :: r)
  simp only [Lib.join, List.intercalate] at ih ⊢
  simp only [List.intersperse_cons_cons, List.flatten_cons, ih, joined]
  simp
theorem joined_cons (b x : UInt8) (p : List UInt8) (q : List (List UInt8)) : joined b ((x :: p) :: q) = x :: joined b (p :: q) := by
 cases q <;> rfl
theorem joined_parts (b : UInt8) : ∀ s : List UInt8, joined b (parts b s) = s
 | [] => rfl
 | x :: r => by
  have ih := joined_parts b r
  unfold parts
  by_cases h : x = b
  ·rw [if_pos h]
   cases hp : parts b r with
   | nil => exact absurd hp (parts_ne b r)
   | cons p q => rw [joined, ← hp, ih, h]; rfl
  ·rw [if_neg h]
   cases hp : parts b r with
   | nil => exact absurd hp (parts_ne b r)
   | cons p q =>
    rw [hp] at ih
    rw [joined_cons, ih]
theorem parts_word (b : UInt8) : ∀ w : List UInt8, b ∉ w → parts b w = [w]
 | [], _ => rfl
 | x :: r, h => by
  have hx : ¬ x = b := fun e => h (by simp [e])
  have hr : b ∉ r := fun e => h (by simp [e])
  unfold parts
  rw [if_neg hx, parts_word b r hr]
theorem parts_append (b : UInt8) (s : List UInt8) : ∀ w : List UInt8, b ∉ w → parts b (w ++ b :: s) = w :: parts b s
 | [], _ => by simp [parts]
 | x :: r, h => by
  have hx : ¬ x = b := fun e => h (by simp [e])
  have hr : b ∉ r := fun e => h (by simp [e])
  rw [List.cons_append, parts, if_neg hx, parts_append b s r hr]
theorem parts_joined (b : UInt8) : ∀ l : List (List UInt8), l ≠ [] → (∀ w ∈ l, b ∉ w) → parts b (joined b l) = l
 | [], h, _ => absurd rfl h
 | [x], _, h => parts_word b x (h x (by simp))
 | x :: y :: r, _, h => by
  rw [joined, parts_append b _ x (h x (by simp)), parts_joined b (y :: r) (by simp) fun w hw => h w (by simp at hw ⊢; exact .inr hw)]
end Go.Evl
/-
 Messages: the words of a line, and how the reference prints them.
-/
namespace Go.Proofs.YthmfkkpmjcbgeaaGreatDoor.Co
open Go Go.Evl
theorem firstI_zero : ∀ l : List Int, firstI l = 0 ↔ ∀ x ∈ l, x = 0
 | [] => by simp [firstI]
 | x :: r => by
  simp only [firstI, List.mem_cons, forall_eq_or_imp]
  split
  ·rename_i h; rw [firstI_zero r]; exact ⟨fun hr => ⟨h, hr⟩, fun hr => hr.2⟩
  ·rename_i h; exact ⟨fun hr => absurd hr h, fun hr => absurd hr.1 h⟩
theorem name_len {s : List UInt8} (h : isNameB s = true) : s.length ≤ 24 := (of_decide_eq_true h).2.1
theorem joined_len (b : UInt8) (n : Nat) : ∀ l : List (List UInt8), (∀ w ∈ l, w.length ≤ n) → (joined b l).length ≤ l.length * (n + 1)
 | [], _ => by simp [joined]
 | [x], h => by
  have := h x (by simp)
  simp only [joined, List.length_cons, List.length_nil]
  omega
 | x :: y :: r, h => by
  have h1 := h x (by simp)
  have h2 := joined_len b n (y :: r) fun w hw => h w (List.mem_cons_of_mem _ hw)
  rw [List.length_cons, Nat.succ_mul]
  simp only [joined, List.length_append, List.length_cons] at h2 ⊢
  omega
theorem strsOf_map : ∀ l : List (List UInt8), Evl.strsOf (l.map D.str) = some l
 | [] => rfl
 | x :: r => by simp only [List.map_cons, Evl.strsOf, strsOf_map r, Option.map_some]
section
variable {E : Oracle} (g : Good E)
include g
set_option maxRecDepth 100000
theorem s_Join (l : List (List UInt8)) (hn : l ≠ []) (hl : l.length ≤ 1000000) (hj : (joined 32 l).length ≤ 1000000) : Fc E n_strings_Join [.d (.list l.length (l.map D.str)), S [32]] (S (joined 32 l)) := by
 refine Fc.extern g.lim (x := joinX) rfl (v := S (joined 32 l)) (m' := []) ?_ rfl
 simp only [joinX, strsOf_map, join_joined]
 rw [if_pos ⟨trivial, by simpa using hn, hj, hl⟩]
end
end Go.Proofs.YthmfkkpmjcbgeaaGreatDoor.Co
/-
 Years, months, days: what the program's functions and the reference's give.
-/
namespace Go.Proofs.YthmfkkpmjcbgeaaGreatDoor.Co
open Go Go.Evl
end Go.Proofs.YthmfkkpmjcbgeaaGreatDoor.Co
/-
 The days of a period: what the program's functions give.
-/
namespace Go.Proofs.YthmfkkpmjcbgeaaGreatDoor.Co
open Go Go.Evl
end Go.Proofs.YthmfkkpmjcbgeaaGreatDoor.Co
/-
 The days of a period, the common days of two: the program's and the reference's.
-/
namespace Go.Proofs.YthmfkkpmjcbgeaaGreatDoor.Co
open Go Go.Evl
end Go.Proofs.YthmfkkpmjcbgeaaGreatDoor.Co
/-
 Priority: claims and their facts.
-/
namespace Go.Proofs.YthmfkkpmjcbgeaaGreatDoor.Co
open Go Go.Evl
structure Clm where
 rq : Rqt
 (hi re ne ye : Bool)
 di : Int
def Clm.cells (c : Clm) : List D := [.str c.rq.nm, .str c.rq.ca, .str c.rq.ki, .str c.rq.te, .str c.rq.pa, .str c.rq.li, DI c.rq.fr, DI c.rq.to, DI c.rq.da, DI c.rq.mi, DI c.rq.se, DI c.rq.si, DI c.rq.no, .bool c.hi, .bool c.re, .bool c.ne, .bool c.ye, DI c.di]
theorem Clm.cells_length (c : Clm) : c.cells.length = 18 := rfl
abbrev fcL : List (List UInt8) := [[104, 105, 115, 116, 111, 114, 105, 99], [114, 101, 116, 105, 109, 101, 100], [110, 101, 119, 99, 111, 109, 101, 114], [121, 101, 97, 114, 114, 111, 117, 110, 100], [100, 97, 121, 115], [115, 101, 97, 116, 115], [115, 105, 122, 101], [110, 111, 105, 115, 101], [100, 105, 115, 116, 97, 110, 99, 101], [109, 105, 110, 117, 116, 101]]
section
variable {E : Oracle} (g : Good E)
include g
set_option maxRecDepth 100000
theorem s_pfirst (l : List Int) (hl : l.length ≤ 140737488355328) : Fc E n_priority_first [LI l] (I (firstI l)) := by
 refine g.fn rfl rfl ?_
 conv => whnf
 refine LoopW.upP g (fun k => [(5, LI l), (6, I l.length), (7, I k)]) (fun _ => []) (fun k => firstI l = firstI (l.drop k)) l.length (fun k hk hp ih => ?_) 0 (Nat.zero_le _) (by simp)
 by_cases hlt : k < l.length
 ·have hd := firstI_drop l k hlt
  repeat' ((conv => whnf); first
  | refine Yz ?_
   | (refine Pick.int (by omega) ?_)
   | (refine Cmp.mk (fun h => ?_) (fun h => ?_)) | (refine Rem.any (by omega) (fun r hr he => ?_)) | (refine Br.mk (fun h => ?_) (fun h => ?_))
   | (refine LoopW.to (ih hlt ?_) ?_ rfl)
   | (refine Ret.mk ?_))
  all_goals simp_all
 ·have : l.drop k = [] := List.drop_eq_nil_of_le (by omega)
  repeat' ((conv => whnf); first
  | refine Yz ?_
   | (refine Ret.mk ?_))
  simp [hp, this, firstI]
theorem s_pfirst2 (a b : Int) : Fc E n_priority_first [.d (.list 2 [DI a, DI b])] (I (firstI [a, b])) := s_pfirst g [a, b] (by simp)
theorem s_pfirst3 (a b c : Int) : Fc E n_priority_first [.d (.list 3 [DI a, DI b, DI c])] (I (firstI [a, b, c])) := s_pfirst g [a, b, c] (by simp)
theorem s_pwhen (b : Bool) (e : Int) : Fc E n_priority_when [B b, I e] (I (if b = true then e else 0)) := by
 refine g.fn rfl rfl ?_
 cases b
 all_goals repeat' ((conv => whnf); first
 | refine Yz ?_
  | (refine Ret.mk rfl))
theorem s_pwithin (n a b : Int) : Fc E n_priority_within [I n, I a, I b] (I (rng n a b)) := by
 refine g.fn rfl rfl ?_
 have hw := s_pwhen g
 unfold rng
 by_cases h1 : n < a
 ·rw [if_pos (.inl h1)]
  repeat' ((conv => whnf); first
  | refine Yz ?_
   | (refine CallI.of (hw _ _) ?_)
   | (refine Ret.mk rfl))
 ·by_cases h2 : b < n
  ·rw [if_pos (.inr h2)]
   repeat' ((conv => whnf); first
   | refine Yz ?_
    | (refine CallI.of (hw _ _) ?_)
    | (refine Ret.mk rfl))
  ·rw [if_neg (by omega)]
   repeat' ((conv => whnf); first
   | refine Yz ?_
    | (refine CallI.of (hw _ _) ?_)
    | (refine Ret.mk rfl))
theorem s_Facts : Fc E n_priority_Facts [] (.d (.list 10 (fcL.map D.str))) := g.compR 100 (by decide +kernel)
theorem r_Facts : Fc E n_ref05_Facts [] (.d (.list 10 (fcL.map D.str))) := g.compR 100 (by decide +kernel)
theorem r_HasFact (s : List UInt8) : Fc E n_ref01_HasWord [.d (.list 10 (fcL.map D.str)), S s] (B (decide (s ∈ fcL))) := r_HasWord g fcL s (by decide)
end
end Go.Proofs.YthmfkkpmjcbgeaaGreatDoor.Co
/-
 Priority: claims and conditions as a law's parameters.
-/
namespace Go.Proofs.YthmfkkpmjcbgeaaGreatDoor.Co
open Go Go.Evl
set_option maxRecDepth 100000
theorem fit_bo {k : Nat} {ds : List D} (h : fit Tryz.prog (k + 1) 4 ds) : ∃ b, ds = [.bool b] := fit_b Tryz.underlying4 h
structure Tst where
 (fa op : List UInt8)
 va : Int
def Tst.cells (t : Tst) : List D := [.str t.fa, .str t.op, DI t.va]
abbrev Tsv (t : Tst) : V := .d (.agg t.cells)
theorem fit_Test {k : Nat} {ds : List D} (h : fit Tryz.prog (k + 2) 86 ds) : ∃ t : Tst, ds = t.cells := by
 obtain ⟨_, _, rfl, h1, _, _, rfl, h2, _, _, rfl, h3, rfl⟩ := fit_st Tryz.underlying86 h
 obtain ⟨s1, rfl⟩ := fit_str h1
 obtain ⟨s2, rfl⟩ := fit_str h2
 obtain ⟨n, rfl, _⟩ := fit_int h3
 exact ⟨⟨s1, s2, n⟩, rfl⟩
end Go.Proofs.YthmfkkpmjcbgeaaGreatDoor.Co
/-
 Priority: conditions.
-/
namespace Go.Proofs.YthmfkkpmjcbgeaaGreatDoor.Co
open Go Go.Evl
def idxG : List (List UInt8) → List UInt8 → Nat → Int
 | [], _, _ => -1
 | x :: r, s, k => if s = x then k else idxG r s (k + 1)
theorem idxG_mem (s : List UInt8) : ∀ (l : List (List UInt8)) (k : Nat), 0 ≤ idxG l s k ↔ s ∈ l
 | [], k => by simp [idxG]
 | x :: r, k => by
  unfold idxG
  split
  ·rename_i h
   simp [h]
  ·rename_i h
   rw [idxG_mem s r]
   simp [h]
theorem idxG_drop (l : List (List UInt8)) (s : List UInt8) (k : Nat) (h : k < l.length) : idxG (l.drop k) s k = if s = l[k] then (k : Int) else idxG (l.drop (k + 1)) s (k + 1) := by
 rw [List.drop_eq_getElem_cons h]
 rfl
def opB (s : List UInt8) : Bool := decide (s = [61]) || decide (s = [60]) || decide (s = [62])
def chkTs (t : Tst) : Int := firstI [if t.fa ∈ fcL then 0 else 10, if opB t.op = true then 0 else 13, rng t.va 0 999999999]
theorem chkTs_zero {t : Tst} (h : chkTs t = 0) : t.fa ∈ fcL ∧ (t.op = [61] ∨ t.op = [60] ∨ t.op = [62]) := by
 unfold chkTs at h
 rw [firstI_zero] at h
 have h1 := h _ (List.mem_cons_self ..)
 have h2 := h (if opB t.op = true then 0 else 13) (by simp)
 refine ⟨Classical.byContradiction fun hn => ?_, ?_⟩
 ·rw [if_neg hn] at h1; cases h1
 ·cases ho : opB t.op with
  | false => rw [ho] at h2; cases h2
  | true => simpa [opB, or_assoc] using ho
section
variable {E : Oracle} (g : Good E)
include g
set_option maxRecDepth 100000
theorem s_IndexS (l : List (List UInt8)) (s : List UInt8) (hl : l.length ≤ 140737488355328) : Fc E n_slices_Index_Lstring_string [.d (.list l.length (l.map D.str)), S s] (I (idxG l s 0)) := by
 refine g.fn rfl rfl ?_
 conv => whnf
 refine LoopW.upP g (fun k => [(0, .d (.list l.length (l.map D.str))), (1, S s), (7, I l.length), (8, I k)]) (fun _ => []) (fun k => idxG l s 0 = idxG (l.drop k) s k) l.length (fun k hk hp ih => ?_) 0 (Nat.zero_le _) (by simp)
 by_cases hlt : k < l.length
 ·have hd := idxG_drop l s k hlt
  have hg : (l.map D.str)[((k : Int)).toNat * 1]? = some (.str l[k]) := by simp [hlt]
  by_cases he : s = l[k]
  ·rw [hp, hd, if_pos he]
   repeat' ((conv => whnf); first
   | refine Yz ?_
    | (refine Pick.now hg ?_)
    | (refine Cmp.tt he ?_)
    | (refine Ret.mk rfl))
  ·have ih := ih hlt (by rw [hp, hd, if_neg he])
   repeat' ((conv => whnf); first
   | refine Yz ?_
    | (refine Pick.now hg ?_)
    | (refine Cmp.ff he ?_)
    | (refine LoopW.to ih rfl rfl))
 ·have : l.drop k = [] := List.drop_eq_nil_of_le (by omega)
  rw [hp, this]
  repeat' ((conv => whnf); first
  | refine Yz ?_
   | (refine Ret.mk rfl))
theorem s_ContainsS (l : List (List UInt8)) (s : List UInt8) (hl : l.length ≤ 140737488355328) : Fc E n_slices_Contains_Lstring_string [.d (.list l.length (l.map D.str)), S s] (B (decide (s ∈ l))) := by
 refine g.fn rfl rfl ?_
 have h := s_IndexS g l s hl
 have hm := idxG_mem s l 0
 generalize idxG l s 0 = r at *
 by_cases hr : 0 ≤ r
 ·rw [decide_eq_true (hm.1 hr)]
  repeat' ((conv => whnf); first
  | refine Yz ?_
   | (apply CallI.of; assumption)
   | (refine Ret.mk rfl))
 ·rw [decide_eq_false fun h => hr (hm.2 h)]
  repeat' ((conv => whnf); first
  | refine Yz ?_
   | (apply CallI.of; assumption)
   | (refine Ret.mk rfl))
theorem s_TestCheck (t : Tst) : Fc E n_priority_Test_check [Tsv t] (I (chkTs t)) := by
 refine g.fn rfl rfl ?_
 have h1 := s_Facts g
 have h2 : Fc E n_slices_Contains_Lstring_string [.d (.list 10 (fcL.map D.str)), S t.fa] (B (decide (t.fa ∈ fcL))) := s_ContainsS g fcL t.fa (by decide)
 have h3 := s_pwithin g t.va 0 999999999
 have h4 : Fc E n_priority_first [.d (.list 3 [DI (if (!decide (t.fa ∈ fcL)) = true then 10 else 0), DI (if (!opB t.op) = true then 13 else 0), DI (rng t.va 0 999999999)])] (I (chkTs t)) := by
  have e : chkTs t = firstI [if (!decide (t.fa ∈ fcL)) = true then 10 else 0, if (!opB t.op) = true then 13 else 0, rng t.va 0 999999999] := by
   unfold chkTs
   cases opB t.op <;> by_cases hf : t.fa ∈ fcL <;> simp [hf]
  rw [e]
  exact s_pfirst3 g _ _ _
 generalize chkTs t = z at *
 generalize rng t.va 0 999999999 = y at *
 generalize decide (t.fa ∈ fcL) = b at *
 by_cases o1 : t.op = [61]
 ·have ho : opB t.op = true := by simp [opB, o1]
  rw [ho] at h4
  repeat' ((conv => whnf); first
  | refine Yz ?_
   | (apply CallI.of; assumption)
   | (refine CallI.of (s_pwhen g _ _) ?_)
   | (refine Cmp.ff (fun h => h o1) ?_)
   | (refine Ret.mk rfl))
 ·by_cases o2 : t.op = [60]
  ·have ho : opB t.op = true := by simp [opB, o2]
   rw [ho] at h4
   repeat' ((conv => whnf); first
   | refine Yz ?_
    | (apply CallI.of; assumption)
    | (refine CallI.of (s_pwhen g _ _) ?_)
    | (refine Cmp.tt o1 ?_)
    | (refine Cmp.ff (fun h => h o2) ?_)
    | (refine Ret.mk rfl))
  ·by_cases o3 : t.op = [62]
   ·have ho : opB t.op = true := by simp [opB, o3]
    rw [ho] at h4
    repeat' ((conv => whnf); first
    | refine Yz ?_
     | (apply CallI.of; assumption)
     | (refine CallI.of (s_pwhen g _ _) ?_)
     | (refine Cmp.tt o1 ?_)
     | (refine Cmp.tt o2 ?_)
     | (refine Cmp.ff (fun h => h o3) ?_)
     | (refine Ret.mk rfl))
   ·have ho : opB t.op = false := by simp [opB, o1, o2, o3]
    rw [ho] at h4
    repeat' ((conv => whnf); first
    | refine Yz ?_
     | (apply CallI.of; assumption)
     | (refine CallI.of (s_pwhen g _ _) ?_)
     | (refine Cmp.tt o1 ?_)
     | (refine Cmp.tt o2 ?_)
     | (refine Cmp.tt o3 ?_)
     | (refine Ret.mk rfl))
theorem r_CheckTest (t : Tst) : Fc E n_ref05_CheckTest [Tsv t] (I (chkTs t)) := by
 refine g.fn rfl rfl ?_
 have h1 := r_Facts g
 have h2 := r_HasFact g t.fa
 have h3 := r_CheckRange g t.va 0 999999999
 unfold chkTs
 generalize rng t.va 0 999999999 = y at *
 by_cases hf : t.fa ∈ fcL
 ·rw [decide_eq_true hf] at h2
  rw [if_pos hf]
  by_cases o1 : t.op = [61]
  ·have ho : opB t.op = true := by simp [opB, o1]
   rw [ho]
   repeat' ((conv => whnf); first
   | refine Yz ?_
    | (apply CallI.of; assumption)
    | (refine Cmp.ff (fun h => h o1) ?_)
    | (refine Ret.mk ?_))
   all_goals simp [firstI]
   all_goals (intro h; exact h.symm)
  ·by_cases o2 : t.op = [60]
   ·have ho : opB t.op = true := by simp [opB, o2]
    rw [ho]
    repeat' ((conv => whnf); first
    | refine Yz ?_
     | (apply CallI.of; assumption)
     | (refine Cmp.tt o1 ?_)
     | (refine Cmp.ff (fun h => h o2) ?_)
     | (refine Ret.mk ?_))
    all_goals simp [firstI]
    all_goals (intro h; exact h.symm)
   ·by_cases o3 : t.op = [62]
    ·have ho : opB t.op = true := by simp [opB, o3]
     rw [ho]
     repeat' ((conv => whnf); first
     | refine Yz ?_
      | (apply CallI.of; assumption)
      | (refine Cmp.tt o1 ?_)
      | (refine Cmp.tt o2 ?_)
      | (refine Cmp.ff (fun h => h o3) ?_)
      | (refine Ret.mk ?_))
     all_goals simp [firstI]
     all_goals (intro h; exact h.symm)
    ·have ho : opB t.op = false := by simp [opB, o1, o2, o3]
     rw [ho]
     repeat' ((conv => whnf); first
     | refine Yz ?_
      | (apply CallI.of; assumption)
      | (refine Cmp.tt o1 ?_)
      | (refine Cmp.tt o2 ?_)
      | (refine Cmp.tt o3 ?_)
      | (refine Ret.mk ?_))
     all_goals simp [firstI]
 ·rw [decide_eq_false hf] at h2
  rw [if_neg hf]
  repeat' ((conv => whnf); first
  | refine Yz ?_
   | (apply CallI.of; assumption)
   | (refine Ret.mk ?_))
  all_goals simp [firstI]
end
end Go.Proofs.YthmfkkpmjcbgeaaGreatDoor.Co
/-
 Rows of records; the first of errors.
-/
namespace Go.Proofs.YthmfkkpmjcbgeaaGreatDoor.Co
open Go Go.Evl
theorem flatR_length {α : Type} (cell : α → List D) (w : Nat) (hw : ∀ a, (cell a).length = w) : ∀ l : List α, (l.flatMap cell).length = l.length * w
 | [] => by simp
 | c :: r => by rw [List.flatMap_cons, List.length_append, hw, flatR_length cell w hw r, List.length_cons, Nat.succ_mul]; omega
theorem flatR_drop {α : Type} (cell : α → List D) (w : Nat) (hw : ∀ a, (cell a).length = w) : ∀ (l : List α) (k : Nat), (l.flatMap cell).drop (k * w) = (l.drop k).flatMap cell
 | l, 0 => by simp
 | [], k + 1 => by simp
 | c :: r, k + 1 => by
  rw [List.flatMap_cons, List.drop_succ_cons, ← flatR_drop cell w hw r k, Nat.succ_mul, Nat.add_comm, ← List.drop_drop]
  congr 1
  rw [List.drop_append_of_le_length (by rw [hw]; exact Nat.le_refl _), List.drop_of_length_le (by rw [hw]; exact Nat.le_refl _)]
  rfl
theorem flatR_win {α : Type} (cell : α → List D) (w : Nat) (hw : ∀ a, (cell a).length = w) (l : List α) (k : Nat) (h : k < l.length) : win (l.flatMap cell) (k * w) w = cell l[k] := by
 unfold win
 rw [flatR_drop cell w hw, List.drop_eq_getElem_cons h, List.flatMap_cons, List.take_append_of_le_length (by rw [hw]; exact Nat.le_refl _), List.take_of_length_le (by rw [hw]; exact Nat.le_refl _)]
theorem flatR_get {α : Type} (cell : α → List D) (w : Nat) (hw : ∀ a, (cell a).length = w) (l : List α) (k j : Nat) (h : k < l.length) (hj : j < w) : (l.flatMap cell)[k * w + j]? = (cell l[k])[j]? := by
 rw [← List.getElem?_drop, flatR_drop cell w hw, List.drop_eq_getElem_cons h, List.flatMap_cons, List.getElem?_append_left (by rw [hw]; exact hj)]
theorem PickW.rec {α : Type} {cell : α → List D} {w : Nat} (hw : ∀ a, (cell a).length = w) {l : List α} {i : Int} {K : List D → Prop} (k : Nat) (hi : i = k) (h : k < l.length) (hk : K (cell l[k])) : PickW (l.flatMap cell) (i.toNat * w) w K := by
 subst hi
 rw [Int.toNat_natCast]
 have h1 := flatR_length cell w hw l
 refine ⟨?_, by rw [flatR_win cell w hw l k h]; exact hk⟩
 have h2 : (k + 1) * w ≤ l.length * w := Nat.mul_le_mul_right _ h
 rw [Nat.succ_mul] at h2
 omega
theorem PickW.rec0 {α : Type} {cell : α → List D} {w : Nat} (hw : ∀ a, (cell a).length = w) {l : List α} {i : Int} {K : List D → Prop} (k : Nat) (hi : i = k) (h : k < l.length) (hk : K (cell l[k])) : PickW (l.flatMap cell) ((0 + i.toNat) * w) w K := by
 rw [Nat.zero_add]; exact PickW.rec hw k hi h hk
theorem Pick.rec {α : Type} {cell : α → List D} {w : Nat} (hw : ∀ a, (cell a).length = w) {l : List α} {i : Int} {j : Nat} {K : D → Prop} {d : D} (k : Nat) (hi : i = k) (h : k < l.length) (hj : (cell l[k])[j]? = some d) (hk : K d) : Pick (l.flatMap cell) (i.toNat * w + j) K := by
 subst hi
 rw [Int.toNat_natCast]
 have hlt : j < w := by
  have := (List.getElem?_eq_some_iff.1 hj).1
  rwa [hw] at this
 exact ⟨⟨d, by rw [flatR_get cell w hw l k j h hlt]; exact hj, hk⟩⟩
theorem Pick.rec0 {α : Type} {cell : α → List D} {w : Nat} (hw : ∀ a, (cell a).length = w) {l : List α} {i : Int} {j : Nat} {K : D → Prop} {d : D} (k : Nat) (hi : i = k) (h : k < l.length) (hj : (cell l[k])[j]? = some d) (hk : K d) : Pick (l.flatMap cell) ((0 + i.toNat) * w + j) K := by
 rw [Nat.zero_add]; exact Pick.rec hw k hi h hj hk
end Go.Proofs.YthmfkkpmjcbgeaaGreatDoor.Co
/-
 Priority: programs, checked by the program.
-/
namespace Go.Proofs.YthmfkkpmjcbgeaaGreatDoor.Co
open Go Go.Evl
set_option maxRecDepth 100000
theorem Tst.cells_length (t : Tst) : t.cells.length = 3 := rfl
structure Kyt where
 fa : List UInt8
 dn : Bool
def Kyt.cells (k : Kyt) : List D := [.str k.fa, .bool k.dn]
theorem Kyt.cells_length (k : Kyt) : k.cells.length = 2 := rfl
abbrev Kyv (k : Kyt) : V := .d (.agg k.cells)
structure Cls where
 nm : List UInt8
 wh : List Tst
 ky : List Kyt
def Cls.cells (c : Cls) : List D := [.str c.nm, .list c.wh.length (c.wh.flatMap Tst.cells), .list c.ky.length (c.ky.flatMap Kyt.cells)]
theorem Cls.cells_length (c : Cls) : c.cells.length = 3 := rfl
abbrev Csv (c : Cls) : V := .d (.agg c.cells)
abbrev LT (l : List Tst) : V := .d (.list l.length (l.flatMap Tst.cells))
abbrev LK (l : List Kyt) : V := .d (.list l.length (l.flatMap Kyt.cells))
abbrev LC (l : List Cls) : V := .d (.list l.length (l.flatMap Cls.cells))
structure Prg where
 cl : List Cls
 (po «of» fo : Int)
def Prg.cells (p : Prg) : List D := [.list p.cl.length (p.cl.flatMap Cls.cells), DI p.po, DI p.of, DI p.fo]
abbrev Pgv (p : Prg) : V := .d (.agg p.cells)
def chkTsG : List Tst → Int
 | [] => 0
 | t :: r => if chkTs t = 0 then chkTsG r else chkTs t
def nmsK (l : List Kyt) : List (List UInt8) := l.map (·.fa)
def chkKy (seen : List (List UInt8)) (k : Kyt) : Int := firstI [if k.fa ∈ fcL then 0 else 10, if k.fa ∈ seen then 9 else 0]
def chkKyG (seen : List (List UInt8)) : List Kyt → Int
 | [] => 0
 | k :: r => if chkKy seen k = 0 then chkKyG (seen ++ [k.fa]) r else chkKy seen k
def chkCs (c : Cls) : Int := firstI [nmE c.nm, if 8 < c.wh.length then 5 else 0, chkTsG c.wh, if 8 < c.ky.length then 5 else 0, chkKyG [] c.ky]
def nmsC (l : List Cls) : List (List UInt8) := l.map (·.nm)
def chkCa (seen : List (List UInt8)) (c : Cls) : Int := firstI [chkCs c, if c.nm ∈ seen then 9 else 0]
def chkCsG (seen : List (List UInt8)) : List Cls → Int
 | [] => 0
 | c :: r => if chkCa seen c = 0 then chkCsG (seen ++ [c.nm]) r else chkCa seen c
def chkPool (p : Prg) : Int := firstI [rng p.po 0 p.cl.length, rng p.of 1 100, rng p.fo 0 p.of]
def chkPg (p : Prg) : Int := firstI [if p.cl.length = 0 then 12 else 0, if 16 < p.cl.length then 5 else 0, chkCsG [] p.cl, chkPool p]
theorem nms_succ {α : Type} (f : α → List UInt8) {l : List α} {k : Nat} (h : k < l.length) : (l.take (k + 1)).map f = (l.take k).map f ++ [f l[k]] := by
 rw [List.take_add_one, List.getElem?_eq_getElem h, List.map_append]
 rfl
theorem win_takeG {α : Type} (f : α → List D) (n : Nat) (hf : ∀ a, (f a).length = n) (l : List α) (k : Nat) (h : k ≤ l.length) : win (l.flatMap f) 0 (k * n) = (l.take k).flatMap f := by
 unfold win
 rw [List.drop_zero]
 have e : l.flatMap f = (l.take k).flatMap f ++ (l.drop k).flatMap f := by rw [← List.flatMap_append, List.take_append_drop]
 have hn := flatR_length f n hf (l.take k)
 rw [List.length_take, Nat.min_eq_left h] at hn
 rw [e, List.take_append_of_le_length (by omega), List.take_of_length_le (by omega)]
theorem sl_take {α : Type} (f : α → List D) (n : Nat) (hf : ∀ a, (f a).length = n) (l : List α) (k : Nat) (h : k ≤ l.length) : V.d (.list (k - 0) (win (l.flatMap f) (0 * n) ((k - 0) * n))) = .d (.list (l.take k).length ((l.take k).flatMap f)) := by
 rw [Nat.zero_mul, Nat.sub_zero, win_takeG f n hf l k h, List.length_take, Nat.min_eq_left h]
section
variable {E : Oracle} (g : Good E)
include g
theorem s_Cc1 (l : List Tst) (t : Tst) : Fc E n_priority_Class_check_1 [LT l, Tsv t] (I (chkTs t)) := by
 refine g.fn rfl rfl ?_
 have h := s_TestCheck g t
 repeat' ((conv => whnf); first
 | refine Yz ?_
  | (apply CallI.of; assumption)
  | (refine Ret.mk rfl))
set_option maxHeartbeats 4000000 in
theorem s_eachT (l : List Tst) (hl : l.length ≤ 1000000) : Fc E n_priority_each_priority_Test [LT l, .d (.fn n_priority_Class_check_1)] (I (chkTsG l)) := by
 refine g.fn rfl rfl ?_
 generalize hR : chkTsG l = R
 repeat' ((conv => whnf); first
 | refine Yz ?_)
 refine LoopW.to (LoopW.upP g (fun k => [(0, LT l), (1, .d (.fn n_priority_Class_check_1)), (8, LT l), (9, I l.length), (10, I k)]) (fun _ => []) (fun k => chkTsG (l.drop k) = R) l.length (fun k hk h0 ih => ?_) 0 (Nat.zero_le _) hR) rfl rfl
 by_cases hlt : k < l.length
 ·rw [List.drop_eq_getElem_cons hlt, chkTsG] at h0
  have ih := ih hlt
  have hn := s_Cc1 g (l.take k) l[k]
  have ht := sl_take Tst.cells 3 Tst.cells_length l k (by omega)
  generalize chkTs l[k] = r at *
  by_cases hz : r = 0
  ·rw [if_pos hz] at h0
   have ih := ih h0
   repeat' ((conv => whnf); first
   | refine Yz ?_
    | (refine PickW.rec Tst.cells_length k rfl hlt ?_)
    | (refine Bounds.at 0 k rfl rfl (by omega) ?_ <;> (try rw [ht]))
    | (refine CallI.of hn ?_)
    | (refine Cmp.ff (fun h => h hz) ?_)
    | (refine LoopW.to ih rfl rfl))
  ·rw [if_neg hz] at h0
   rw [← h0]
   repeat' ((conv => whnf); first
   | refine Yz ?_
    | (refine PickW.rec Tst.cells_length k rfl hlt ?_)
    | (refine Bounds.at 0 k rfl rfl (by omega) ?_ <;> (try rw [ht]))
    | (refine CallI.of hn ?_)
    | (refine Cmp.tt hz ?_)
    | (refine Ret.mk rfl))
 ·rw [List.drop_eq_nil_of_le (by omega), chkTsG] at h0
  rw [← h0]
  repeat' ((conv => whnf); first
  | refine Yz ?_
   | (refine Ret.mk rfl))
set_option maxHeartbeats 4000000 in
theorem in_key (l : List Kyt) (q : Kyt) (hl : l.length ≤ 1000000) {K : V → Mem → Prop}
  (hK : K (I (idxG (nmsK l) q.fa 0)) [(⟨0, 3, 0⟩, .cells ty_priority_Key (q.cells.map V.d))]) :
  In E 2 n_slices_IndexFunc_Lpriority_Key_priority_Key [LK l, .fn n_priority_Class_check_2_1 [] [.ptr ⟨0, 3, 0⟩ 0 0]] [(⟨0, 3, 0⟩, .cells ty_priority_Key (q.cells.map V.d))] K := by
 generalize hA : idxG (nmsK l) q.fa 0 = A at *
 refine In.enter (f := n_slices_IndexFunc_Lpriority_Key_priority_Key) g.lim rfl rfl ?_
 repeat' ((conv => whnf); first
 | refine Yz ?_)
 refine LoopW.to (LoopW.upP g (fun k => [(0, LK l), (1, .fn n_priority_Class_check_2_1 [] [.ptr ⟨0, 3, 0⟩ 0 0]), (7, I l.length), (8, I k)]) (fun _ => _) (fun k => idxG (nmsK (l.drop k)) q.fa k = A) l.length (fun k hk h0 ih => ?_) 0 (Nat.zero_le _) hA) rfl rfl
 by_cases hlt : k < l.length
 ·rw [List.drop_eq_getElem_cons hlt, nmsK, List.map_cons, idxG] at h0
  have ih := ih hlt
  by_cases hd : l[k].fa = q.fa
  ·rw [if_pos hd.symm] at h0
   subst h0
   repeat' ((conv => whnf); first
   | refine Yz ?_
    | (refine PickW.rec Kyt.cells_length k rfl hlt ?_)
    | (refine In.enter (f := n_priority_Class_check_2_1) g.lim rfl rfl ?_)
    | (refine Cmp.tt hd ?_)
    | (exact hK))
  ·rw [if_neg (Ne.symm hd)] at h0
   have ih := ih h0
   repeat' ((conv => whnf); first
   | refine Yz ?_
    | (refine PickW.rec Kyt.cells_length k rfl hlt ?_)
    | (refine In.enter (f := n_priority_Class_check_2_1) g.lim rfl rfl ?_)
    | (refine Cmp.ff hd ?_)
    | (refine LoopW.to ih rfl rfl))
 ·rw [List.drop_eq_nil_of_le (by omega), nmsK, List.map_nil, idxG] at h0
  subst h0
  repeat' ((conv => whnf); first
  | refine Yz ?_
   | (exact hK))
set_option maxHeartbeats 4000000 in
theorem s_Cc2 (l : List Kyt) (q : Kyt) (hl : l.length ≤ 1000000) : Fc E n_priority_Class_check_2 [LK l, Kyv q] (I (chkKy (nmsK l) q)) := by
 refine g.fn rfl rfl ?_
 have h1 := s_Facts g
 have h2 : Fc E n_slices_Contains_Lstring_string [.d (.list 10 (fcL.map D.str)), S q.fa] (B (decide (q.fa ∈ fcL))) := s_ContainsS g fcL q.fa (by decide)
 have h3 := s_pfirst2 g (if (!decide (q.fa ∈ fcL)) = true then 10 else 0) (if q.fa ∈ nmsK l then 9 else 0)
 have e : chkKy (nmsK l) q = firstI [if (!decide (q.fa ∈ fcL)) = true then 10 else 0, if q.fa ∈ nmsK l then 9 else 0] := by
  unfold chkKy
  by_cases hf : q.fa ∈ fcL <;> simp [hf]
 rw [e]
 have hm := idxG_mem q.fa (nmsK l) 0
 have hin := fun {K} => in_key g (K := K) l q hl
 generalize idxG (nmsK l) q.fa 0 = r at *
 generalize decide (q.fa ∈ fcL) = b at *
 by_cases hr : 0 ≤ r
 ·rw [if_pos (hm.1 hr)] at h3 ⊢
  repeat' ((conv => whnf); first
  | refine Yz ?_
   | (refine In.enter (f := n_slices_ContainsFunc_Lpriority_Key_priority_Key) g.lim rfl rfl ?_)
   | (refine hin ?_)
   | (apply CallI.of; assumption)
   | (refine CallI.of (s_pwhen g _ _) ?_)
   | (refine Ret.mk rfl))
 ·rw [if_neg (fun h => hr (hm.2 h))] at h3 ⊢
  repeat' ((conv => whnf); first
  | refine Yz ?_
   | (refine In.enter (f := n_slices_ContainsFunc_Lpriority_Key_priority_Key) g.lim rfl rfl ?_)
   | (refine hin ?_)
   | (apply CallI.of; assumption)
   | (refine CallI.of (s_pwhen g _ _) ?_)
   | (refine Ret.mk rfl))
set_option maxHeartbeats 4000000 in
theorem s_eachK (l : List Kyt) (hl : l.length ≤ 1000000) : Fc E n_priority_each_priority_Key [LK l, .d (.fn n_priority_Class_check_2)] (I (chkKyG [] l)) := by
 refine g.fn rfl rfl ?_
 generalize hR : chkKyG [] l = R
 repeat' ((conv => whnf); first
 | refine Yz ?_)
 refine LoopW.to (LoopW.upP g (fun k => [(0, LK l), (1, .d (.fn n_priority_Class_check_2)), (8, LK l), (9, I l.length), (10, I k)]) (fun _ => []) (fun k => chkKyG (nmsK (l.take k)) (l.drop k) = R) l.length (fun k hk h0 ih => ?_) 0 (Nat.zero_le _) hR) rfl rfl
 by_cases hlt : k < l.length
 ·have hs : nmsK (l.take (k + 1)) = nmsK (l.take k) ++ [l[k].fa] := nms_succ Kyt.fa hlt
  rw [List.drop_eq_getElem_cons hlt, chkKyG, ← hs] at h0
  have ih := ih hlt
  have hn := s_Cc2 g (l.take k) l[k] (by simp; omega)
  have ht := sl_take Kyt.cells 2 Kyt.cells_length l k (by omega)
  generalize chkKy (nmsK (l.take k)) l[k] = r at *
  by_cases hz : r = 0
  ·rw [if_pos hz] at h0
   have ih := ih h0
   repeat' ((conv => whnf); first
   | refine Yz ?_
    | (refine PickW.rec Kyt.cells_length k rfl hlt ?_)
    | (refine Bounds.at 0 k rfl rfl (by omega) ?_ <;> (try rw [ht]))
    | (refine CallI.of hn ?_)
    | (refine Cmp.ff (fun h => h hz) ?_)
    | (refine LoopW.to ih rfl rfl))
  ·rw [if_neg hz] at h0
   rw [← h0]
   repeat' ((conv => whnf); first
   | refine Yz ?_
    | (refine PickW.rec Kyt.cells_length k rfl hlt ?_)
    | (refine Bounds.at 0 k rfl rfl (by omega) ?_ <;> (try rw [ht]))
    | (refine CallI.of hn ?_)
    | (refine Cmp.tt hz ?_)
    | (refine Ret.mk rfl))
 ·rw [List.drop_eq_nil_of_le (by omega), chkKyG] at h0
  rw [← h0]
  repeat' ((conv => whnf); first
  | refine Yz ?_
   | (refine Ret.mk rfl))
end
end Go.Proofs.YthmfkkpmjcbgeaaGreatDoor.Co
/-
 Priority: CheckProgram, by the program.
-/
namespace Go.Proofs.YthmfkkpmjcbgeaaGreatDoor.Co
open Go Go.Evl
set_option maxRecDepth 100000
theorem firstI_two (a b : Int) (r : List Int) : firstI (a :: b :: r) = if firstI [a, b] = 0 then firstI r else firstI [a, b] := by
 simp only [firstI]
 by_cases ha : a = 0
 ·by_cases hb : b = 0 <;> simp [ha, hb]
 ·simp [ha]
def SmallC (c : Cls) : Prop := c.wh.length ≤ 1000000 ∧ c.ky.length ≤ 1000000
def SmallP (p : Prg) : Prop := p.cl.length ≤ 1000000 ∧ ∀ c ∈ p.cl, SmallC c
section
variable {E : Oracle} (g : Good E)
include g
set_option maxHeartbeats 4000000 in
theorem s_ClassCheck (c : Cls) (hs : SmallC c) : Fc E n_priority_Class_check [Csv c] (I (chkCs c)) := by
 refine g.fn rfl rfl ?_
 have h1 := s_IsName g c.nm
 have h2 := s_eachT g c.wh hs.1
 have h3 := s_eachK g c.ky hs.2
 have hp := s_pfirst2 g (nmE c.nm) (if 8 < c.wh.length then 5 else 0)
 have hq := s_pfirst3 g (chkTsG c.wh) (if 8 < c.ky.length then 5 else 0) (chkKyG [] c.ky)
 unfold chkCs
 rw [firstI_two]
 unfold nmE at *
 obtain ⟨l1, l2⟩ := hs
 generalize firstI [chkTsG c.wh, if 8 < c.ky.length then 5 else 0, chkKyG [] c.ky] = q at *
 by_cases n1 : 8 < c.wh.length
 ·rw [if_pos n1] at hp ⊢
  generalize isNameB c.nm = b at *
  have hz : firstI [if (!b) = true then 8 else 0, 5] ≠ 0 := by cases b <;> decide
  rw [if_neg hz]
  generalize firstI [if (!b) = true then 8 else 0, 5] = r at *
  repeat' ((conv => whnf); first
  | refine Yz ?_
   | (apply CallI.of; assumption)
   | (refine CallI.of (s_pwhen g _ _) ?_)
   | (refine Cmp.tt hz ?_)
   | (refine Ret.mk rfl))
 ·rw [if_neg n1] at hp ⊢
  generalize isNameB c.nm = b at *
  generalize firstI [if (!b) = true then 8 else 0, 0] = r at *
  by_cases hz : r = 0
  ·rw [if_pos hz]
   by_cases n2 : 8 < c.ky.length
   ·rw [if_pos n2] at hq
    repeat' ((conv => whnf); first
    | refine Yz ?_
     | (apply CallI.of; assumption)
     | (refine CallI.of (s_pwhen g _ _) ?_)
     | (refine Cmp.ff (fun h => h hz) ?_)
     | (refine Ret.mk rfl))
   ·rw [if_neg n2] at hq
    repeat' ((conv => whnf); first
    | refine Yz ?_
     | (apply CallI.of; assumption)
     | (refine CallI.of (s_pwhen g _ _) ?_)
     | (refine Cmp.ff (fun h => h hz) ?_)
     | (refine Ret.mk rfl))
  ·rw [if_neg hz]
   repeat' ((conv => whnf); first
   | refine Yz ?_
    | (apply CallI.of; assumption)
    | (refine CallI.of (s_pwhen g _ _) ?_)
    | (refine Cmp.tt hz ?_)
    | (refine Ret.mk rfl))
set_option maxHeartbeats 4000000 in
theorem in_cls (l : List Cls) (q : Cls) (hl : l.length ≤ 1000000) {K : V → Mem → Prop}
  (hK : K (I (idxG (nmsC l) q.nm 0)) [(⟨0, 3, 0⟩, .cells ty_priority_Class [V.d (.str q.nm), V.d (.list q.wh.length (q.wh.flatMap Tst.cells)), V.d (.list q.ky.length (q.ky.flatMap Kyt.cells))])]) :
  In E 2 n_slices_IndexFunc_Lpriority_Class_priority_Class [LC l, .fn n_priority_added_1 [] [.ptr ⟨0, 3, 0⟩ 0 0]] [(⟨0, 3, 0⟩, .cells ty_priority_Class [V.d (.str q.nm), V.d (.list q.wh.length (q.wh.flatMap Tst.cells)), V.d (.list q.ky.length (q.ky.flatMap Kyt.cells))])] K := by
 generalize hA : idxG (nmsC l) q.nm 0 = A at *
 refine In.enter (f := n_slices_IndexFunc_Lpriority_Class_priority_Class) g.lim rfl rfl ?_
 repeat' ((conv => whnf); first
 | refine Yz ?_)
 refine LoopW.to (LoopW.upP g (fun k => [(0, LC l), (1, .fn n_priority_added_1 [] [.ptr ⟨0, 3, 0⟩ 0 0]), (7, I l.length), (8, I k)]) (fun _ => _) (fun k => idxG (nmsC (l.drop k)) q.nm k = A) l.length (fun k hk h0 ih => ?_) 0 (Nat.zero_le _) hA) rfl rfl
 by_cases hlt : k < l.length
 ·rw [List.drop_eq_getElem_cons hlt, nmsC, List.map_cons, idxG] at h0
  have ih := ih hlt
  by_cases hd : l[k].nm = q.nm
  ·rw [if_pos hd.symm] at h0
   subst h0
   repeat' ((conv => whnf); first
   | refine Yz ?_
    | (refine PickW.rec Cls.cells_length k rfl hlt ?_)
    | (refine In.enter (f := n_priority_added_1) g.lim rfl rfl ?_)
    | (refine Cmp.tt hd ?_)
    | (exact hK))
  ·rw [if_neg (Ne.symm hd)] at h0
   have ih := ih h0
   repeat' ((conv => whnf); first
   | refine Yz ?_
    | (refine PickW.rec Cls.cells_length k rfl hlt ?_)
    | (refine In.enter (f := n_priority_added_1) g.lim rfl rfl ?_)
    | (refine Cmp.ff hd ?_)
    | (refine LoopW.to ih rfl rfl))
 ·rw [List.drop_eq_nil_of_le (by omega), nmsC, List.map_nil, idxG] at h0
  subst h0
  repeat' ((conv => whnf); first
  | refine Yz ?_
   | (exact hK))
set_option maxHeartbeats 4000000 in
theorem s_added (l : List Cls) (c : Cls) (hl : l.length ≤ 1000000) (hs : SmallC c) : Fc E n_priority_added [LC l, Csv c] (I (chkCa (nmsC l) c)) := by
 refine g.fn rfl rfl ?_
 have h1 := s_ClassCheck g c hs
 have h3 := s_pfirst2 g (chkCs c) (if c.nm ∈ nmsC l then 9 else 0)
 unfold chkCa
 have hm := idxG_mem c.nm (nmsC l) 0
 have hin := fun {K} => in_cls g (K := K) l c hl
 generalize idxG (nmsC l) c.nm 0 = r at *
 generalize chkCs c = e at *
 by_cases hr : 0 ≤ r
 ·rw [if_pos (hm.1 hr)] at h3 ⊢
  repeat' ((conv => whnf); first
  | refine Yz ?_
   | (refine In.enter (f := n_slices_ContainsFunc_Lpriority_Class_priority_Class) g.lim rfl rfl ?_)
   | (refine hin ?_)
   | (apply CallI.of; assumption)
   | (refine CallI.of (s_pwhen g _ _) ?_)
   | (refine Ret.mk rfl))
 ·rw [if_neg (fun h => hr (hm.2 h))] at h3 ⊢
  repeat' ((conv => whnf); first
  | refine Yz ?_
   | (refine In.enter (f := n_slices_ContainsFunc_Lpriority_Class_priority_Class) g.lim rfl rfl ?_)
   | (refine hin ?_)
   | (apply CallI.of; assumption)
   | (refine CallI.of (s_pwhen g _ _) ?_)
   | (refine Ret.mk rfl))
set_option maxHeartbeats 4000000 in
theorem s_eachC (l : List Cls) (hl : l.length ≤ 1000000) (hs : ∀ c ∈ l, SmallC c) : Fc E n_priority_each_priority_Class [LC l, .d (.fn n_priority_added)] (I (chkCsG [] l)) := by
 refine g.fn rfl rfl ?_
 generalize hR : chkCsG [] l = R
 repeat' ((conv => whnf); first
 | refine Yz ?_)
 refine LoopW.to (LoopW.upP g (fun k => [(0, LC l), (1, .d (.fn n_priority_added)), (8, LC l), (9, I l.length), (10, I k)]) (fun _ => []) (fun k => chkCsG (nmsC (l.take k)) (l.drop k) = R) l.length (fun k hk h0 ih => ?_) 0 (Nat.zero_le _) hR) rfl rfl
 by_cases hlt : k < l.length
 ·have e : nmsC (l.take (k + 1)) = nmsC (l.take k) ++ [l[k].nm] := nms_succ Cls.nm hlt
  rw [List.drop_eq_getElem_cons hlt, chkCsG, ← e] at h0
  have ih := ih hlt
  have hn := s_added g (l.take k) l[k] (by simp; omega) (hs _ (List.getElem_mem hlt))
  have ht := sl_take Cls.cells 3 Cls.cells_length l k (by omega)
  generalize chkCa (nmsC (l.take k)) l[k] = r at *
  by_cases hz : r = 0
  ·rw [if_pos hz] at h0
   have ih := ih h0
   repeat' ((conv => whnf); first
   | refine Yz ?_
    | (refine PickW.rec Cls.cells_length k rfl hlt ?_)
    | (refine Bounds.at 0 k rfl rfl (by omega) ?_ <;> (try rw [ht]))
    | (refine CallI.of hn ?_)
    | (refine Cmp.ff (fun h => h hz) ?_)
    | (refine LoopW.to ih rfl rfl))
  ·rw [if_neg hz] at h0
   rw [← h0]
   repeat' ((conv => whnf); first
   | refine Yz ?_
    | (refine PickW.rec Cls.cells_length k rfl hlt ?_)
    | (refine Bounds.at 0 k rfl rfl (by omega) ?_ <;> (try rw [ht]))
    | (refine CallI.of hn ?_)
    | (refine Cmp.tt hz ?_)
    | (refine Ret.mk rfl))
 ·rw [List.drop_eq_nil_of_le (by omega), chkCsG] at h0
  rw [← h0]
  repeat' ((conv => whnf); first
  | refine Yz ?_
   | (refine Ret.mk rfl))
theorem s_ppool (p : Prg) : Fc E n_priority_Program_pool [Pgv p] (I (chkPool p)) := by
 refine g.fn rfl rfl ?_
 have h := s_pwithin g
 repeat' ((conv => whnf); first
 | refine Yz ?_
  | (refine CallI.of (h _ _ _) ?_)
  | (refine CallI.of (s_pfirst3 g _ _ _) ?_)
  | (refine Ret.mk rfl))
set_option maxHeartbeats 4000000 in
theorem s_CheckProgram (p : Prg) (hs : SmallP p) : Fc E n_priority_CheckProgram [Pgv p] (I (chkPg p)) := by
 refine g.fn rfl rfl ?_
 have h1 := s_eachC g p.cl hs.1 hs.2
 have h2 := s_ppool g p
 have hq := s_pfirst2 g (chkCsG [] p.cl) (chkPool p)
 have hl := hs.1
 unfold chkPg
 rw [firstI_two]
 generalize firstI [chkCsG [] p.cl, chkPool p] = q at *
 by_cases n1 : p.cl.length = 0
 ·rw [if_pos n1, if_neg (show ¬ 16 < p.cl.length by omega), if_neg (show ¬ firstI [12, 0] = 0 by decide)]
  repeat' ((conv => whnf); first
  | refine Yz ?_
   | (apply CallI.of; assumption)
   | (refine CallI.of (s_pwhen g _ _) ?_)
   | (refine CallI.of (s_pfirst2 g _ _) ?_)
   | (refine Ret.mk rfl))
 ·rw [if_neg n1]
  by_cases n2 : 16 < p.cl.length
  ·rw [if_pos n2, if_neg (show ¬ firstI [0, 5] = 0 by decide)]
   repeat' ((conv => whnf); first
   | refine Yz ?_
    | (apply CallI.of; assumption)
    | (refine CallI.of (s_pwhen g _ _) ?_)
    | (refine CallI.of (s_pfirst2 g _ _) ?_)
    | (refine Ret.mk rfl))
  ·rw [if_neg n2, if_pos (show firstI [0, 0] = 0 by decide)]
   repeat' ((conv => whnf); first
   | refine Yz ?_
    | (apply CallI.of; assumption)
    | (refine CallI.of (s_pwhen g _ _) ?_)
    | (refine CallI.of (s_pfirst2 g _ _) ?_)
    | (refine Ret.mk rfl))
end
end Go.Proofs.YthmfkkpmjcbgeaaGreatDoor.Co
/-
 Priority: CheckProgram, by the reference.
-/
namespace Go.Proofs.YthmfkkpmjcbgeaaGreatDoor.Co
open Go Go.Evl
set_option maxRecDepth 100000
theorem key_in {l : List Kyt} {k j : Nat} (h : k < l.length) (hj : j < k) (e : (l[j]'(Nat.lt_trans hj h)).fa = l[k].fa) : l[k].fa ∈ nmsK (l.take k) := by
 unfold nmsK
 rw [List.mem_map]
 refine ⟨l[j]'(Nat.lt_trans hj h), ?_, e⟩
 rw [List.mem_take_iff_getElem]
 exact ⟨j, by omega, rfl⟩
theorem key_out {l : List Kyt} {k : Nat} (h : k < l.length) (hn : ∀ (i : Nat) (hi : i < k), (l[i]'(Nat.lt_trans hi h)).fa ≠ l[k].fa) : l[k].fa ∉ nmsK (l.take k) := by
 intro hm
 unfold nmsK at hm
 rw [List.mem_map] at hm
 obtain ⟨x, hx, e⟩ := hm
 rw [List.mem_take_iff_getElem] at hx
 obtain ⟨i, hi, rfl⟩ := hx
 exact hn i (by omega) e
theorem cls_in {l : List Cls} {s : List UInt8} {j : Nat} (h : j < l.length) (e : l[j].nm = s) : s ∈ nmsC l := by
 unfold nmsC
 rw [List.mem_map]
 exact ⟨_, List.getElem_mem h, e⟩
theorem cls_out {l : List Cls} {s : List UInt8} (hn : ∀ (i : Nat) (h : i < l.length), l[i].nm ≠ s) : s ∉ nmsC l := by
 intro hm
 unfold nmsC at hm
 rw [List.mem_map] at hm
 obtain ⟨x, hx, e⟩ := hm
 obtain ⟨i, hi, rfl⟩ := List.getElem_of_mem hx
 exact hn i hi e
section
variable {E : Oracle} (g : Good E)
include g
set_option maxHeartbeats 8000000 in
theorem r_CheckClass (c : Cls) (hs : SmallC c) : Fc E n_ref05_CheckClass [Csv c] (I (chkCs c)) := by
 refine g.fn rfl rfl ?_
 have h1 := r_IsName g c.nm
 have h2 := r_Facts g
 obtain ⟨l1, l2⟩ := hs
 unfold chkCs nmE
 generalize isNameB c.nm = b at *
 cases b
 ·repeat' ((conv => whnf); first
 | refine Yz ?_
   | (apply CallI.of; assumption)
   | (refine Ret.mk rfl))
 ·by_cases n1 : 8 < c.wh.length
  ·rw [if_pos n1]
   repeat' ((conv => whnf); first
   | refine Yz ?_
    | (apply CallI.of; assumption)
    | (refine Ret.mk rfl))
  ·rw [if_neg n1]
   generalize hR : chkTsG c.wh = R
   repeat' ((conv => whnf); first
   | refine Yz ?_
    | (apply CallI.of; assumption))
   refine LoopW.to (LoopW.upP g (fun k => [(1, .ptr ⟨0, 1, 0⟩ 0 0), (3, I k)]) (fun _ => _) (fun k => chkTsG (c.wh.drop k) = R) c.wh.length (fun k hk h0 ih => ?_) 0 (Nat.zero_le _) hR) rfl rfl
   by_cases hlt : k < c.wh.length
   ·rw [List.drop_eq_getElem_cons hlt, chkTsG] at h0
    have ih := ih hlt
    have hc := r_CheckTest g c.wh[k]
    generalize chkTs c.wh[k] = e at *
    by_cases hz : e = 0
    ·rw [if_pos hz] at h0
     have ih := ih h0
     repeat' ((conv => whnf); first
     | refine Yz ?_
      | (refine PickW.rec Tst.cells_length k rfl hlt ?_)
      | (refine CallI.of hc ?_)
      | (refine Cmp.ff (fun h => h hz) ?_)
      | (refine LoopW.to ih rfl rfl))
    ·rw [if_neg hz] at h0
     have hf : firstI [if (!true) = true then 8 else 0, 0, R, if 8 < c.ky.length then 5 else 0, chkKyG [] c.ky] = e := by
      rw [← h0]
      simp [firstI, hz]
     rw [hf]
     repeat' ((conv => whnf); first
     | refine Yz ?_
      | (refine PickW.rec Tst.cells_length k rfl hlt ?_)
      | (refine CallI.of hc ?_)
      | (refine Cmp.tt hz ?_)
      | (refine Ret.mk rfl))
   ·rw [List.drop_eq_nil_of_le (by omega), chkTsG] at h0
    subst h0
    by_cases n2 : 8 < c.ky.length
    ·rw [if_pos n2]
     repeat' ((conv => whnf); first
     | refine Yz ?_
      | (refine Ret.mk rfl))
    ·rw [if_neg n2]
     generalize hQ : chkKyG [] c.ky = Q
     have hf : firstI [if (!true) = true then 8 else 0, 0, 0, 0, Q] = Q := by
      simp only [firstI]
      simp
      intro h; exact h.symm
     rw [hf]
     repeat' ((conv => whnf); first
     | refine Yz ?_)
     refine LoopW.to (LoopW.upP g (fun k => [(1, .ptr ⟨0, 1, 0⟩ 0 0), (5, I k)]) (fun _ => _) (fun k => chkKyG (nmsK (c.ky.take k)) (c.ky.drop k) = Q) c.ky.length (fun k hk h0 ih => ?_) 0 (Nat.zero_le _) hQ) rfl rfl
     by_cases hlt : k < c.ky.length
     ·have e : nmsK (c.ky.take (k + 1)) = nmsK (c.ky.take k) ++ [c.ky[k].fa] := nms_succ Kyt.fa hlt
      rw [List.drop_eq_getElem_cons hlt, chkKyG, ← e] at h0
      have ih := ih hlt
      have hw := r_HasFact g c.ky[k].fa
      by_cases hk1 : c.ky[k].fa ∈ fcL
      ·rw [decide_eq_true hk1] at hw
       repeat' ((conv => whnf); first
       | refine Yz ?_
        | (refine PickW.rec Kyt.cells_length k rfl hlt ?_)
        | (refine Pick.rec Kyt.cells_length k rfl hlt rfl ?_)
        | (apply CallI.of; assumption))
       refine LoopW.to (LoopW.upP g (fun j => [(1, .ptr ⟨0, 1, 0⟩ 0 0), (5, I k), (6, I j)]) (fun _ => _) (fun j => ∀ (i : Nat) (_ : i < j) (h : i < c.ky.length), c.ky[i].fa ≠ c.ky[k].fa) k (fun j hj hn jh => ?_) 0 (Nat.zero_le _) (fun i hi => absurd hi (Nat.not_lt_zero _))) rfl rfl
       by_cases hjk : j < k
       ·have hjl : j < c.ky.length := by omega
        by_cases hd : c.ky[j].fa = c.ky[k].fa
        ·have hm := key_in hlt hjk hd
         have hc : chkKy (nmsK (c.ky.take k)) c.ky[k] = 9 := by
          unfold chkKy
          rw [if_pos hk1, if_pos hm]
          rfl
         rw [hc, if_neg (by decide)] at h0
         rw [← h0]
         repeat' ((conv => whnf); first
         | refine Yz ?_
          | (refine Pick.rec Kyt.cells_length j rfl hjl rfl ?_)
          | (refine Pick.rec Kyt.cells_length k rfl hlt rfl ?_)
          | (refine Cmp.tt hd ?_)
          | (refine Ret.mk rfl))
        ·have jh := jh hjk fun i hi h => by
          by_cases e : i = j
          ·subst e; exact hd
          ·exact hn i (by omega) h
         repeat' ((conv => whnf); first
         | refine Yz ?_
          | (refine Pick.rec Kyt.cells_length j rfl hjl rfl ?_)
          | (refine Pick.rec Kyt.cells_length k rfl hlt rfl ?_)
          | (refine Cmp.ff hd ?_)
          | (refine LoopW.to jh rfl rfl))
       ·have hm := key_out hlt fun i hi => hn i (by omega) (by omega)
        have hc : chkKy (nmsK (c.ky.take k)) c.ky[k] = 0 := by
         unfold chkKy
         rw [if_pos hk1, if_neg hm]
         rfl
        rw [hc, if_pos rfl] at h0
        have ih := ih h0
        repeat' ((conv => whnf); first
        | refine Yz ?_
         | (refine LoopW.to ih rfl rfl))
      ·rw [decide_eq_false hk1] at hw
       have hc : chkKy (nmsK (c.ky.take k)) c.ky[k] = 10 := by
        unfold chkKy
        rw [if_neg hk1]
        rfl
       rw [hc, if_neg (by decide)] at h0
       rw [← h0]
       repeat' ((conv => whnf); first
       | refine Yz ?_
        | (refine Pick.rec Kyt.cells_length k rfl hlt rfl ?_)
        | (apply CallI.of; assumption)
        | (refine Ret.mk rfl))
     ·rw [List.drop_eq_nil_of_le (by omega), chkKyG] at h0
      rw [← h0]
      repeat' ((conv => whnf); first
      | refine Yz ?_
       | (refine Ret.mk rfl))
theorem r_CheckPool (p : Prg) : Fc E n_ref05_CheckPool [Pgv p] (I (chkPool p)) := by
 refine g.fn rfl rfl ?_
 have h := r_CheckRange g
 have h3 : Fc E n_ref01_First [.d (.list 3 [DI (rng p.po 0 p.cl.length), DI (rng p.of 1 100), DI (rng p.fo 0 p.of)])] (I (chkPool p)) := r_First g [_, _, _] (by simp)
 repeat' ((conv => whnf); first
 | refine Yz ?_
  | (refine CallI.of (h _ _ _) ?_)
  | (apply CallI.of; assumption)
  | (refine Ret.mk rfl))
set_option maxHeartbeats 8000000 in
theorem r_padded (l : List Cls) (c : Cls) (hl : l.length ≤ 1000000) (hs : SmallC c) : Fc E n_ref05_added [LC l, Csv c] (I (chkCa (nmsC l) c)) := by
 refine g.fn rfl rfl ?_
 have h1 := r_CheckClass g c hs
 unfold chkCa
 generalize chkCs c = e at *
 by_cases he : e = 0
 ·subst he
  repeat' ((conv => whnf); first
  | refine Yz ?_
   | (apply CallI.of; assumption))
  refine LoopW.to (LoopW.upP g (fun k => [(0, LC l), (3, .ptr ⟨0, 3, 0⟩ 0 0), (5, I 0), (6, I k)]) (fun _ => _) (fun k => ∀ (i : Nat) (_ : i < k) (h : i < l.length), l[i].nm ≠ c.nm) l.length (fun k hk hn ih => ?_) 0 (Nat.zero_le _) (fun i hi => absurd hi (Nat.not_lt_zero _))) rfl rfl
  by_cases hlt : k < l.length
  ·by_cases hd : l[k].nm = c.nm
   ·rw [if_pos (cls_in hlt hd)]
    by_cases hx : k + 1 < l.length
    all_goals repeat' ((conv => whnf); first
    | refine Yz ?_
     | (refine Pick.rec Cls.cells_length k rfl hlt rfl ?_)
     | (refine Cmp.tt hd ?_)
     | (refine LoopW.step g.lim ?_)
     | (refine Ret.mk rfl))
   ·have ih := ih hlt fun i hi h => by
     by_cases e : i = k
     ·subst e; exact hd
     ·exact hn i (by omega) h
    repeat' ((conv => whnf); first
    | refine Yz ?_
     | (refine Pick.rec Cls.cells_length k rfl hlt rfl ?_)
     | (refine Cmp.ff hd ?_)
     | (refine LoopW.to ih rfl rfl))
  ·rw [if_neg (cls_out fun i h => hn i (by omega) h)]
   repeat' ((conv => whnf); first
   | refine Yz ?_
    | (refine Ret.mk rfl))
 ·have hf : ∀ x, firstI [e, x] = e := fun x => by simp [firstI, he]
  rw [hf]
  by_cases hx : 0 < l.length
  all_goals repeat' ((conv => whnf); first
  | refine Yz ?_
   | (apply CallI.of; assumption)
   | (refine Cmp.ff he ?_)
   | (refine LoopW.step g.lim ?_)
   | (refine Ret.mk rfl))
set_option maxHeartbeats 8000000 in
theorem r_CheckProgram (p : Prg) (hs : SmallP p) : Fc E n_ref05_CheckProgram [Pgv p] (I (chkPg p)) := by
 refine g.fn rfl rfl ?_
 have hp := r_CheckPool g p
 obtain ⟨l1, l2⟩ := hs
 unfold chkPg
 by_cases n1 : p.cl.length = 0
 ·rw [if_pos n1]
  repeat' ((conv => whnf); first
  | refine Yz ?_
   | (refine Ret.mk rfl))
 ·rw [if_neg n1]
  by_cases n2 : 16 < p.cl.length
  ·rw [if_pos n2]
   repeat' ((conv => whnf); first
   | refine Yz ?_
    | (refine Ret.mk rfl))
  ·rw [if_neg n2]
   generalize hR : chkCsG [] p.cl = R
   generalize chkPool p = q at *
   repeat' ((conv => whnf); first
   | refine Yz ?_)
   refine LoopW.to (LoopW.upP g (fun k => [(1, .ptr ⟨0, 1, 0⟩ 0 0), (3, I k)]) (fun _ => _) (fun k => chkCsG (nmsC (p.cl.take k)) (p.cl.drop k) = R) p.cl.length (fun k hk h0 ih => ?_) 0 (Nat.zero_le _) hR) rfl rfl
   by_cases hlt : k < p.cl.length
   ·have e : nmsC (p.cl.take (k + 1)) = nmsC (p.cl.take k) ++ [p.cl[k].nm] := nms_succ Cls.nm hlt
    rw [List.drop_eq_getElem_cons hlt, chkCsG, ← e] at h0
    have ih := ih hlt
    have hn := r_padded g (p.cl.take k) p.cl[k] (by simp; omega) (l2 _ (List.getElem_mem hlt))
    have ht := sl_take Cls.cells 3 Cls.cells_length p.cl k (by omega)
    generalize chkCa (nmsC (p.cl.take k)) p.cl[k] = r at *
    by_cases hz : r = 0
    ·rw [if_pos hz] at h0
     have ih := ih h0
     repeat' ((conv => whnf); first
     | refine Yz ?_
      | (refine PickW.rec Cls.cells_length k rfl hlt ?_)
      | (refine Bounds.at 0 k rfl rfl (by omega) ?_ <;> (try rw [ht]))
      | (refine CallI.of hn ?_)
      | (refine Cmp.ff (fun h => h hz) ?_)
      | (refine LoopW.to ih rfl rfl))
    ·rw [if_neg hz] at h0
     have hf : firstI [0, 0, R, q] = r := by rw [← h0]; simp [firstI, hz]
     rw [hf]
     repeat' ((conv => whnf); first
     | refine Yz ?_
      | (refine PickW.rec Cls.cells_length k rfl hlt ?_)
      | (refine Bounds.at 0 k rfl rfl (by omega) ?_ <;> (try rw [ht]))
      | (refine CallI.of hn ?_)
      | (refine Cmp.tt hz ?_)
      | (refine Ret.mk rfl))
   ·rw [List.drop_eq_nil_of_le (by omega), chkCsG] at h0
    have hf : firstI [0, 0, R, q] = q := by
     rw [← h0]
     simp only [firstI]
     simp
     intro h; exact h.symm
    rw [hf]
    repeat' ((conv => whnf); first
    | refine Yz ?_
     | (apply CallI.of; assumption)
     | (refine Ret.mk rfl))
end
end Go.Proofs.YthmfkkpmjcbgeaaGreatDoor.Co
/-
 Priority: the class of a claim, by the program and by the reference.
-/
namespace Go.Proofs.YthmfkkpmjcbgeaaGreatDoor.Co
open Go Go.Evl
set_option maxRecDepth 100000
theorem chkTsG_zero : ∀ {l : List Tst}, chkTsG l = 0 → ∀ t ∈ l, chkTs t = 0
 | [], _, t, ht => by cases ht
 | x :: r, h, t, ht => by
  rw [chkTsG] at h
  by_cases hz : chkTs x = 0
  ·rw [if_pos hz] at h
   rcases List.mem_cons.1 ht with rfl | ht
   ·exact hz
   ·exact chkTsG_zero h t ht
  ·rw [if_neg hz] at h
   exact absurd h hz
theorem chkKyG_zero : ∀ {l : List Kyt} {seen : List (List UInt8)}, chkKyG seen l = 0 → ∀ k ∈ l, k.fa ∈ fcL
 | [], _, _, k, hk => by cases hk
 | x :: r, seen, h, k, hk => by
  rw [chkKyG] at h
  by_cases hz : chkKy seen x = 0
  ·rw [if_pos hz] at h
   rcases List.mem_cons.1 hk with rfl | hk
   ·unfold chkKy at hz
    rw [firstI_zero] at hz
    refine Classical.byContradiction fun hn => ?_
    have := hz _ (List.mem_cons_self ..)
    rw [if_neg hn] at this
    cases this
   ·exact chkKyG_zero h k hk
  ·rw [if_neg hz] at h
   exact absurd h hz
structure OkCls (c : Cls) : Prop where
 nm : isNameB c.nm = true
 wh : c.wh.length ≤ 8
 ky : c.ky.length ≤ 8
 ts : ∀ t ∈ c.wh, chkTs t = 0
 ks : ∀ k ∈ c.ky, k.fa ∈ fcL
theorem chkCs_zero {c : Cls} (h : chkCs c = 0) : OkCls c := by
 unfold chkCs at h
 rw [firstI_zero] at h
 have h1 := h (nmE c.nm) (by simp)
 have h2 := h (if 8 < c.wh.length then 5 else 0) (by simp)
 have h3 := h (chkTsG c.wh) (by simp)
 have h4 := h (if 8 < c.ky.length then 5 else 0) (by simp)
 have h5 := h (chkKyG [] c.ky) (by simp)
 refine ⟨?_, ?_, ?_, chkTsG_zero h3, chkKyG_zero h5⟩
 ·unfold nmE at h1
  cases hb : isNameB c.nm with
  | true => rfl
  | false => rw [hb] at h1; cases h1
 ·refine Classical.byContradiction fun hn => ?_
  rw [if_pos (by omega)] at h2
  cases h2
 ·refine Classical.byContradiction fun hn => ?_
  rw [if_pos (by omega)] at h4
  cases h4
theorem chkCsG_zero : ∀ {l : List Cls} {seen : List (List UInt8)}, chkCsG seen l = 0 → ∀ c ∈ l, OkCls c
 | [], _, _, c, hc => by cases hc
 | x :: r, seen, h, c, hc => by
  rw [chkCsG] at h
  by_cases hz : chkCa seen x = 0
  ·rw [if_pos hz] at h
   rcases List.mem_cons.1 hc with rfl | hc
   ·unfold chkCa at hz
    rw [firstI_zero] at hz
    exact chkCs_zero (hz _ (List.mem_cons_self ..))
   ·exact chkCsG_zero h c hc
  ·rw [if_neg hz] at h
   exact absurd h hz
structure OkPrg (p : Prg) : Prop where
 one : 0 < p.cl.length
 many : p.cl.length ≤ 16
 cs : ∀ c ∈ p.cl, OkCls c
 po : 0 ≤ p.po ∧ p.po ≤ p.cl.length
 of' : 1 ≤ p.of ∧ p.of ≤ 100
 fo : 0 ≤ p.fo ∧ p.fo ≤ p.of
theorem chkPg_zero {p : Prg} (h : chkPg p = 0) : OkPrg p := by
 unfold chkPg at h
 rw [firstI_zero] at h
 have h1 := h (if p.cl.length = 0 then 12 else 0) (by simp)
 have h2 := h (if 16 < p.cl.length then 5 else 0) (by simp)
 have h3 := h (chkCsG [] p.cl) (by simp)
 have h4 := h (chkPool p) (by simp)
 unfold chkPool at h4
 rw [firstI_zero] at h4
 refine ⟨?_, ?_, chkCsG_zero h3, rng_zero.1 (h4 _ (by simp)), rng_zero.1 (h4 _ (by simp)), rng_zero.1 (h4 _ (by simp))⟩
 ·refine Classical.byContradiction fun hn => ?_
  rw [if_pos (by omega)] at h1
  cases h1
 ·refine Classical.byContradiction fun hn => ?_
  rw [if_pos (by omega)] at h2
  cases h2
theorem OkPrg.small {p : Prg} (h : OkPrg p) : SmallP p := ⟨by have := h.many; omega, fun c hc => ⟨by have := (h.cs c hc).wh; omega, by have := (h.cs c hc).ky; omega⟩⟩
end Go.Proofs.YthmfkkpmjcbgeaaGreatDoor.Co
/-
 Priority: a program as a text, plain.
-/
namespace Go.Proofs.YthmfkkpmjcbgeaaGreatDoor.Co
open Go Go.Evl
def decL (n : Int) : List UInt8 := digitsF 20 n.toNat
theorem digitsF_len : ∀ (k u : Nat), (digitsF k u).length ≤ k
 | 0, _ => Nat.le_refl 0
 | k + 1, u => by
  unfold digitsF
  split
  ·simp
  ·have := digitsF_len k (u / 10)
   simp only [List.length_append, List.length_cons, List.length_nil]
   omega
theorem decL_len (n : Int) : (decL n).length ≤ 20 := digitsF_len 20 _
def tstL (t : Tst) : List UInt8 := t.fa ++ t.op ++ decL t.va
def keyL (k : Kyt) : List UInt8 := k.fa ++ [if k.dn = true then 45 else 43]
abbrev whenL : List UInt8 := [119, 104, 101, 110]
abbrev byL : List UInt8 := [98, 121]
def wsT (c : Cls) (k : Nat) : List (List UInt8) := [[99, 108, 97, 115, 115], c.nm] ++ if k = 0 then [] else whenL :: (c.wh.take k).map tstL
def wsK (c : Cls) (k : Nat) : List (List UInt8) := wsT c c.wh.length ++ if k = 0 then [] else byL :: (c.ky.take k).map keyL
def clsL (c : Cls) : List UInt8 := joined 32 (wsK c c.ky.length) ++ [10]
def poolW (p : Prg) : List (List UInt8) := [[112, 111, 111, 108], decL p.po, [115, 104, 97, 114, 101], decL p.fo, [111, 102], decL p.of]
def prgL (p : Prg) : List UInt8 := p.cl.flatMap clsL ++ (joined 32 (poolW p) ++ [10])
theorem wsK_zero (c : Cls) : wsK c 0 = wsT c c.wh.length := by
 unfold wsK
 rw [if_pos rfl, List.append_nil]
theorem wsK_ne (c : Cls) (k : Nat) : wsK c k ≠ [] := by simp [wsK, wsT]
theorem fcL_len {s : List UInt8} (h : s ∈ fcL) : s.length ≤ 9 := by
 simp only [fcL, List.mem_cons, List.not_mem_nil, or_false] at h
 rcases h with rfl | rfl | rfl | rfl | rfl | rfl | rfl | rfl | rfl | rfl <;> decide
theorem tstL_len {t : Tst} (h : chkTs t = 0) : (tstL t).length ≤ 30 := by
 obtain ⟨h1, h2⟩ := chkTs_zero h
 have h3 := fcL_len h1
 have h4 := decL_len t.va
 have h5 : t.op.length = 1 := by rcases h2 with e | e | e <;> rw [e] <;> rfl
 unfold tstL
 simp only [List.length_append]
 omega
theorem keyL_len {k : Kyt} (h : k.fa ∈ fcL) : (keyL k).length ≤ 10 := by
 have := fcL_len h
 simp only [keyL, List.length_append, List.length_cons, List.length_nil]
 omega
theorem wsT_len {c : Cls} (h : OkCls c) (k : Nat) : (wsT c k).length ≤ 11 ∧ ∀ w ∈ wsT c k, w.length ≤ 30 := by
 have h1 := name_len h.nm
 have h2 := h.wh
 unfold wsT
 split
 ·refine ⟨by simp, fun w hw => ?_⟩
  simp only [List.append_nil, List.mem_cons, List.not_mem_nil, or_false] at hw
  rcases hw with rfl | rfl
  ·decide
  ·omega
 ·refine ⟨by simp only [List.length_append, List.length_cons, List.length_nil, List.length_map, List.length_take]; omega, fun w hw => ?_⟩
  simp only [List.cons_append, List.nil_append, List.mem_cons, List.mem_map] at hw
  rcases hw with rfl | rfl | rfl | ⟨t, ht, rfl⟩
  ·decide
  ·omega
  ·decide
  ·exact tstL_len (h.ts t (List.mem_of_mem_take ht))
theorem wsK_len {c : Cls} (h : OkCls c) (k : Nat) : (wsK c k).length ≤ 20 ∧ ∀ w ∈ wsK c k, w.length ≤ 30 := by
 have h1 := wsT_len h c.wh.length
 have h2 := h.ky
 unfold wsK
 split
 ·rw [List.append_nil]
  exact ⟨by omega, h1.2⟩
 ·refine ⟨by simp only [List.length_append, List.length_cons, List.length_map, List.length_take]; omega, fun w hw => ?_⟩
  rcases List.mem_append.1 hw with hw | hw
  ·exact h1.2 w hw
  ·simp only [List.mem_cons, List.mem_map] at hw
   rcases hw with rfl | ⟨t, ht, rfl⟩
   ·decide
   ·have := keyL_len (h.ks t (List.mem_of_mem_take ht))
    omega
theorem jK_len {c : Cls} (h : OkCls c) (k : Nat) : (joined 32 (wsK c k)).length ≤ 620 := by
 have h1 := wsK_len h k
 have := joined_len 32 30 _ h1.2
 omega
theorem clsL_len {c : Cls} (h : OkCls c) : (clsL c).length ≤ 621 := by
 have := jK_len h c.ky.length
 unfold clsL
 rw [List.length_append, List.length_singleton]
 omega
theorem txtC_succ {l : List Cls} {k : Nat} (h : k < l.length) : (l.take (k + 1)).flatMap clsL = (l.take k).flatMap clsL ++ (joined 32 (wsK l[k] l[k].ky.length) ++ [10]) := by
 rw [List.take_add_one, List.getElem?_eq_getElem h, List.flatMap_append]
 simp [clsL]
theorem flat_len {l : List Cls} (h : ∀ c ∈ l, OkCls c) : (l.flatMap clsL).length ≤ l.length * 621 := by
 induction l with
 | nil => simp
 | cons c r ih =>
  have h1 := clsL_len (h c (List.mem_cons_self ..))
  have h2 := ih fun x hx => h x (List.mem_cons_of_mem _ hx)
  rw [List.flatMap_cons, List.length_append, List.length_cons]
  omega
theorem txtC_len {p : Prg} (h : OkPrg p) (k : Nat) : ((p.cl.take k).flatMap clsL).length ≤ 9936 := by
 have h1 := flat_len (l := p.cl.take k) fun c hc => h.cs c (List.mem_of_mem_take hc)
 have h2 := h.many
 rw [List.length_take] at h1
 omega
theorem poolW_len (p : Prg) : (joined 32 (poolW p)).length ≤ 126 := by
 have := joined_len 32 20 (poolW p) fun w hw => by
  have h1 := decL_len p.po
  have h2 := decL_len p.fo
  have h3 := decL_len p.of
  simp only [poolW, List.mem_cons, List.not_mem_nil, or_false] at hw
  rcases hw with rfl | rfl | rfl | rfl | rfl | rfl <;> first | decide | omega
 have e : (poolW p).length = 6 := rfl
 omega
end Go.Proofs.YthmfkkpmjcbgeaaGreatDoor.Co
/-
 Decimal numbers of at most nine digits without leading zeros: what a text says, and the text.
-/
namespace Go.Proofs.YthmfkkpmjcbgeaaGreatDoor.Co
open Go Go.Evl
def numD (s : List UInt8) : Option Nat := if s.length = 0 ∨ 9 < s.length ∨ (1 < s.length ∧ s.head? = some 48) then none else Lib.decFrom 0 s
theorem dF_app (c : UInt8) : ∀ (s : List UInt8) (a : Nat), Lib.decFrom a (s ++ [c]) = (Lib.decFrom a s).bind fun m => (Lib.digitVal c).map fun d => m * 10 + d
 | [], a => by
  simp only [List.nil_append, Lib.decFrom]
  cases Lib.digitVal c <;> rfl
 | x :: r, a => by
  simp only [List.cons_append, Lib.decFrom]
  cases Lib.digitVal x with
  | none => rfl
  | some d => exact dF_app c r _
theorem dF_ge : ∀ (s : List UInt8) (a n : Nat), Lib.decFrom a s = some n → a ≤ n
 | [], a, n, h => by simp only [Lib.decFrom, Option.some.injEq] at h; omega
 | x :: r, a, n, h => by
  simp only [Lib.decFrom] at h
  cases hd : Lib.digitVal x with
  | none => rw [hd] at h; cases h
  | some d =>
   rw [hd] at h
   have := dF_ge r _ n h
   omega
theorem dv_of {c : UInt8} {d : Nat} (h : Lib.digitVal c = some d) : d ≤ 9 ∧ c = UInt8.ofNat (48 + d) ∧ c.toNat = 48 + d := by
 unfold Lib.digitVal at h
 split at h
 ·rename_i hc
  simp only [Option.some.injEq] at h
  have e : 48 + d = c.toNat := by omega
  refine ⟨by omega, ?_, e.symm⟩
  rw [e]
  exact (UInt8.ofNat_toNat).symm
 ·cases h
theorem dv_ofNat {d : Nat} (h : d ≤ 9) : Lib.digitVal (UInt8.ofNat (48 + d)) = some d := by
 have : d = 0 ∨ d = 1 ∨ d = 2 ∨ d = 3 ∨ d = 4 ∨ d = 5 ∨ d = 6 ∨ d = 7 ∨ d = 8 ∨ d = 9 := by omega
 rcases this with rfl | rfl | rfl | rfl | rfl | rfl | rfl | rfl | rfl | rfl <;> rfl
theorem digits_dF : ∀ (f : Nat) (s : List UInt8) (n : Nat), Lib.decFrom 0 s = some n → s ≠ [] → (s.length = 1 ∨ s.head? ≠ some 48) → s.length ≤ f → digitsF f n = s
 | 0, s, n, _, h0, _, hl => absurd (List.length_eq_zero_iff.1 (by omega)) h0
 | f + 1, s, n, h, h0, hz, hl => by
  obtain ⟨x, c, rfl⟩ : ∃ x c, s = x ++ [c] := ⟨s.dropLast, s.getLast h0, (List.dropLast_concat_getLast h0).symm⟩
  rw [dF_app] at h
  cases hx : Lib.decFrom 0 x with
  | none => rw [hx] at h; cases h
  | some m =>
   cases hd : Lib.digitVal c with
   | none => rw [hx, hd] at h; cases h
   | some d =>
    rw [hx, hd] at h
    simp only [Option.bind_some, Option.map_some, Option.some.injEq] at h
    obtain ⟨h9, hc, _⟩ := dv_of hd
    by_cases he : x = []
    ·subst he
     simp only [Lib.decFrom, Option.some.injEq] at hx
     unfold digitsF
     rw [if_pos (by omega), hc]
     simp only [List.nil_append]
     congr 2
     omega
    ·have hh : x.head? ≠ some 48 := by
      rcases hz with hz | hz
      ·have := List.length_pos_iff.2 he
       rw [List.length_append, List.length_singleton] at hz
       omega
      ·cases x with
       | nil => exact absurd rfl he
       | cons y q => simpa using hz
     have hm : 1 ≤ m := by
      cases x with
      | nil => exact absurd rfl he
      | cons y q =>
       simp only [Lib.decFrom] at hx
       cases hy : Lib.digitVal y with
       | none => rw [hy] at hx; cases hx
       | some e =>
        rw [hy] at hx
        have h1 := dF_ge q _ m hx
        obtain ⟨_, h2, _⟩ := dv_of hy
        have : e ≠ 0 := fun e0 => hh (by subst e0; rw [h2]; rfl)
        omega
     have hl' : x.length ≤ f := by rw [List.length_append, List.length_singleton] at hl; omega
     have ih := digits_dF f x m hx he (.inr hh) hl'
     unfold digitsF
     rw [if_neg (by omega), show n / 10 = m by omega, ih, hc]
     congr 3
     omega
theorem dF_digits : ∀ (f n : Nat), n < 10 ^ (f + 1) → Lib.decFrom 0 (digitsF (f + 1) n) = some n
 | 0, n, h => by
  have h : n < 10 := by simpa using h
  unfold digitsF
  rw [if_pos h]
  simp only [Lib.decFrom, dv_ofNat (show n ≤ 9 by omega)]
  simp
 | f + 1, n, h => by
  unfold digitsF
  by_cases h10 : n < 10
  ·rw [if_pos h10]
   simp only [Lib.decFrom, dv_ofNat (show n ≤ 9 by omega)]
   simp
  ·rw [if_neg h10, dF_app, dF_digits f (n / 10) (by rw [Nat.pow_succ] at h; omega), dv_ofNat (by omega)]
   simp only [Option.bind_some, Option.map_some, Option.some.injEq]
   omega
theorem digitsF_ne : ∀ (f n : Nat), digitsF (f + 1) n ≠ []
 | f, n => by
  unfold digitsF
  split <;> simp
theorem digitsF_head : ∀ (f n : Nat), n < 10 ^ (f + 1) → (digitsF (f + 1) n).length = 1 ∨ (digitsF (f + 1) n).head? ≠ some 48
 | 0, n, h => by
  have h : n < 10 := by simpa using h
  unfold digitsF
  rw [if_pos h]
  exact .inl rfl
 | f + 1, n, h => by
  unfold digitsF
  by_cases h10 : n < 10
  ·rw [if_pos h10]; exact .inl rfl
  ·rw [if_neg h10]
   refine .inr ?_
   have hne := digitsF_ne f (n / 10)
   rcases digitsF_head f (n / 10) (by rw [Nat.pow_succ] at h; omega) with ih | ih
   ·cases f with
    | zero =>
     unfold digitsF
     rw [Nat.pow_succ] at h
     have : n / 10 < 10 := by omega
     rw [if_pos this]
     have h1 : 1 ≤ n / 10 := by omega
     generalize n / 10 = m at *
     have : m = 1 ∨ m = 2 ∨ m = 3 ∨ m = 4 ∨ m = 5 ∨ m = 6 ∨ m = 7 ∨ m = 8 ∨ m = 9 := by omega
     rcases this with rfl | rfl | rfl | rfl | rfl | rfl | rfl | rfl | rfl <;> simp
    | succ f =>
     unfold digitsF at ih ⊢
     by_cases hm : n / 10 < 10
     ·rw [if_pos hm]
      have h1 : 1 ≤ n / 10 := by omega
      generalize n / 10 = m at *
      have : m = 1 ∨ m = 2 ∨ m = 3 ∨ m = 4 ∨ m = 5 ∨ m = 6 ∨ m = 7 ∨ m = 8 ∨ m = 9 := by omega
      rcases this with rfl | rfl | rfl | rfl | rfl | rfl | rfl | rfl | rfl <;> simp
     ·rw [if_neg hm] at ih
      have := List.length_pos_iff.2 (digitsF_ne f (n / 10 / 10))
      rw [List.length_append, List.length_singleton] at ih
      omega
   ·cases hq : digitsF (f + 1) (n / 10) with
    | nil => exact absurd hq hne
    | cons y q => rw [hq] at ih; simpa using ih
theorem numD_lt {s : List UInt8} {n : Nat} (h : numD s = some n) : n ≤ 999999999 := by
 unfold numD at h
 split at h
 ·cases h
 ·rename_i hn
  have h1 := Lib.decFrom_lt s 0 n h
  have h2 : 10 ^ s.length ≤ 10 ^ 9 := Nat.pow_le_pow_right (by decide) (by omega)
  simp only [Nat.zero_add, Nat.one_mul] at h1
  have : (10 : Nat) ^ 9 = 1000000000 := by decide
  omega
theorem numD_text {s : List UInt8} {n : Nat} (h : numD s = some n) : decL n = s := by
 unfold numD at h
 split at h
 ·cases h
 ·rename_i hn
  unfold decL
  rw [Int.toNat_natCast]
  refine digits_dF 20 s n h (fun e => hn (.inl (by rw [e]; rfl))) ?_ (by omega)
  by_cases h1 : s.length = 1
  ·exact .inl h1
  ·exact .inr fun e => hn (.inr (.inr ⟨by omega, e⟩))
theorem digitsF_len9 {f n : Nat} (h : n < 10 ^ (f + 1)) : (digitsF 20 n).length ≤ f + 1 := by
 have key : ∀ (f g n : Nat), n < 10 ^ (f + 1) → f ≤ g → (digitsF (g + 1) n).length ≤ f + 1 := by
  intro f
  induction f with
  | zero =>
   intro g n h _
   have h : n < 10 := by simpa using h
   unfold digitsF
   rw [if_pos h]
   exact Nat.le_refl _
  | succ f ih =>
   intro g n h hg
   unfold digitsF
   split
   ·simp
   ·obtain ⟨g', rfl⟩ : ∃ g', g = g' + 1 := ⟨g - 1, by omega⟩
    have := ih g' (n / 10) (by rw [Nat.pow_succ] at h; omega) (by omega)
    rw [List.length_append, List.length_singleton]
    omega
 by_cases hf : f ≤ 19
 ·exact key f 19 n h hf
 ·have := digitsF_len 20 n
  omega
theorem numD_digits {n : Int} (h : 0 ≤ n ∧ n ≤ 999999999) : numD (decL n) = some n.toNat := by
 unfold decL numD
 have hn : n.toNat < 10 ^ (8 + 1) := by
  have : (10 : Nat) ^ 9 = 1000000000 := by decide
  omega
 have h20 : n.toNat < 10 ^ (19 + 1) := Nat.lt_of_lt_of_le hn (by decide)
 have h1 := digitsF_len9 hn
 have h2 := digitsF_ne 19 n.toNat
 have h3 := digitsF_head 19 n.toNat h20
 have h4 : 0 < (digitsF 20 n.toNat).length := List.length_pos_iff.2 h2
 rw [if_neg, dF_digits 19 _ h20]
 rintro (h | h | ⟨h, h'⟩)
 ·omega
 ·omega
 ·rcases h3 with h3 | h3
  ·have h3 : (digitsF 20 n.toNat).length = 1 := h3
   omega
  ·exact h3 h'
end Go.Proofs.YthmfkkpmjcbgeaaGreatDoor.Co
/-
 Plain laws: the lines of a text, each with its line feed.
-/
namespace Go.Proofs.YthmfkkpmjcbgeaaGreatDoor.Co
open Go Go.Evl
def pcs : List UInt8 → List (List UInt8)
 | [] => []
 | c :: r => if c = 10 then [10] :: pcs r else
  match pcs r with
  | [] => [[c]]
  | p :: q => (c :: p) :: q
theorem pcs_nil : pcs [] = [] := rfl
theorem pcs_lf : ∀ (a r : List UInt8), (10 : UInt8) ∉ a → pcs (a ++ 10 :: r) = (a ++ [10]) :: pcs r
 | [], r, _ => by simp [pcs]
 | c :: a, r, h => by
  have hc : ¬ c = 10 := fun e => h (by simp [e])
  have h' : (10 : UInt8) ∉ a := fun hm => h (by simp [hm])
  simp only [List.cons_append, pcs, if_neg hc, pcs_lf a r h']
theorem pcs_flat : ∀ s : List UInt8, (pcs s).flatten = s
 | [] => rfl
 | c :: r => by
  have ih := pcs_flat r
  rw [pcs]
  split
  ·rename_i h; simp [ih, h]
  ·split
   ·rename_i h; rw [h] at ih; simp only [List.flatten_nil] at ih; simp [← ih]
   ·rename_i h; rw [h] at ih; simp only [List.flatten_cons] at ih ⊢; rw [← ih]; simp
theorem pcs_ne {s : List UInt8} (h : s ≠ []) : pcs s ≠ [] := fun e => h (by rw [← pcs_flat s, e]; rfl)
theorem pcs_len : ∀ s : List UInt8, (pcs s).length ≤ s.length
 | [] => by simp [pcs]
 | c :: r => by
  have ih := pcs_len r
  rw [pcs]
  split
  ·simp; omega
  ·split
   ·simp
   ·rename_i h; rw [h] at ih; simp only [List.length_cons] at ih ⊢; omega
theorem pcs_mem_len : ∀ (s : List UInt8), ∀ p ∈ pcs s, p.length ≤ s.length
 | [], p, h => by simp [pcs] at h
 | c :: r, p, h => by
  have ih := pcs_mem_len r
  rw [pcs] at h
  split at h
  ·rcases List.mem_cons.1 h with rfl | h
   ·simp
   ·have := ih p h; simp; omega
  ·split at h
   ·simp at h; subst h; simp
   ·rename_i q0 q hq
    rw [hq] at ih
    rcases List.mem_cons.1 h with rfl | h
    ·have := ih q0 (by simp); simp; omega
    ·have := ih p (List.mem_cons_of_mem _ h); simp; omega
def wholeB (p : List UInt8) : Bool := decide (p.getLast? = some 10)
def endW (p : List UInt8) : List UInt8 := if wholeB p then p.dropLast else p
theorem whole_eq {p : List UInt8} (h : wholeB p = true) : p = endW p ++ [10] := by
 unfold endW
 rw [if_pos h]
 unfold wholeB at h
 have h := of_decide_eq_true h
 obtain ⟨ys, e⟩ := List.getLast?_eq_some_iff.1 h
 rw [e]; simp
end Go.Proofs.YthmfkkpmjcbgeaaGreatDoor.Co
/-
 Words without blanks, plain.
-/
namespace Go.Proofs.YthmfkkpmjcbgeaaGreatDoor.Co
open Go Go.Evl
def vis (s : List UInt8) : Prop := ∀ x ∈ s, 32 < x.toNat
theorem vis_no {s : List UInt8} (h : vis s) : (32 : UInt8) ∉ s ∧ (10 : UInt8) ∉ s := ⟨fun hm => absurd (h _ hm) (by decide), fun hm => absurd (h _ hm) (by decide)⟩
theorem vis_name {s : List UInt8} (h : isNameB s = true) : vis s := by
 have h := (of_decide_eq_true h).2.2
 intro x hx
 obtain ⟨i, hi, rfl⟩ := List.getElem_of_mem hx
 have := h i hi
 rw [show s.getD i 0 = s[i] by simp [List.getD, hi]] at this
 unfold okCh at this
 omega
end Go.Proofs.YthmfkkpmjcbgeaaGreatDoor.Co
/-
 Priority: what a text says as a program, plain; there and back.
-/
namespace Go.Proofs.YthmfkkpmjcbgeaaGreatDoor.Co
open Go Go.Evl
abbrev classL : List UInt8 := [99, 108, 97, 115, 115]
abbrev poolL : List UInt8 := [112, 111, 111, 108]
abbrev shareL : List UInt8 := [115, 104, 97, 114, 101]
abbrev ofL : List UInt8 := [111, 102]
def cutO : List UInt8 → Option (List UInt8 × UInt8 × List UInt8)
 | [] => none
 | c :: r => if c = 61 ∨ c = 60 ∨ c = 62 then some ([], c, r) else (cutO r).map fun p => (c :: p.1, p.2)
def rdTest (w : List UInt8) : Option Tst :=
 match cutO w with
 | none => none
 | some (a, c, r) => (numD r).map fun (n : Nat) => ⟨a, [c], (n : Int)⟩
def rdKey (w : List UInt8) : Option Kyt :=
 match w.getLast? with
 | none => none
 | some c => if c = 43 ∨ c = 45 then some ⟨w.dropLast, decide (c = 45)⟩ else none
def rdTests : List (List UInt8) → Option (List Tst × List (List UInt8))
 | [] => some ([], [])
 | w :: r => if w = byL then some ([], w :: r) else
  match rdTest w with
  | none => none
  | some t => (rdTests r).map fun p => (t :: p.1, p.2)
def rdKeys : List (List UInt8) → Option (List Kyt)
 | [] => some []
 | w :: r =>
  match rdKey w with
  | none => none
  | some k => (rdKeys r).map (k :: ·)
def rdWhen (r : List (List UInt8)) : Option (List Tst × List (List UInt8)) :=
 match r with
 | [] => some ([], [])
 | w :: q => if w = whenL then (rdTests q).bind fun p => if p.1 = [] then none else some p else some ([], w :: q)
def rdBy (r : List (List UInt8)) : Option (List Kyt) :=
 match r with
 | [] => some []
 | w :: q => if w = byL then (rdKeys q).bind fun l => if l = [] then none else some l else none
def rdClass : List (List UInt8) → Option Cls
 | [] => none
 | nm :: r => (rdWhen r).bind fun p => (rdBy p.2).map fun ks => ⟨nm, p.1, ks⟩
def rdPool (cl : List Cls) : List (List UInt8) → Option Prg
 | [a, s, b, o, c] => if s = shareL ∧ o = ofL then (numD a).bind fun (x : Nat) => (numD b).bind fun (y : Nat) => (numD c).map fun (z : Nat) => ⟨cl, (x : Int), (z : Int), (y : Int)⟩ else none
 | _ => none
def rdWords (l : List UInt8) : Option (List (List UInt8)) :=
 if l.getLast? = some 10 ∧ [] ∉ parts 32 l.dropLast then some (parts 32 l.dropLast) else none
inductive LnR where
 | bad (e : Int)
 | cls (c : Cls)
 | pool (p : Prg)
def rdLine (cl : List Cls) (l : List UInt8) : LnR :=
 match rdWords l with
 | none => .bad 25
 | some [] => .bad 25
 | some (w :: ws) =>
  if w = poolL then
   match rdPool cl ws with
   | none => .bad 25
   | some p => if cl = [] then .bad 12 else if chkPool p = 0 then .pool p else .bad (chkPool p)
  else if w = classL then
   match rdClass ws with
   | none => .bad 25
   | some c => if 16 ≤ cl.length then .bad 5 else if chkCa (nmsC cl) c = 0 then .cls c else .bad (chkCa (nmsC cl) c)
  else .bad 25
def zeroP : Prg := ⟨[], 0, 0, 0⟩
def rdG (cl : List Cls) (i : Nat) : List (List UInt8) → Prg × Nat × Int
 | [] => (zeroP, i, 28)
 | l :: r =>
  match rdLine cl l with
  | .bad e => (zeroP, i, e)
  | .cls c => rdG (cl ++ [c]) (i + 1) r
  | .pool p => if r = [] then (p, 0, 0) else (zeroP, i + 1, 25)
def rdP (s : List UInt8) : Prg × Nat × Int := if 4096 < s.length then (zeroP, 0, 26) else rdG [] 0 (pcs s)
theorem cutO_eq : ∀ {w a : List UInt8} {c : UInt8} {r : List UInt8}, cutO w = some (a, c, r) → w = a ++ [c] ++ r
 | [], _, _, _, h => by cases h
 | x :: q, a, c, r, h => by
  rw [cutO] at h
  split at h
  ·simp only [Option.some.injEq, Prod.mk.injEq] at h
   obtain ⟨rfl, rfl, rfl⟩ := h
   rfl
  ·cases hq : cutO q with
   | none => rw [hq] at h; cases h
   | some p =>
    obtain ⟨a', c', r'⟩ := p
    rw [hq] at h
    simp only [Option.map_some, Option.some.injEq, Prod.mk.injEq] at h
    obtain ⟨rfl, rfl, rfl⟩ := h
    rw [cutO_eq hq]
    rfl
theorem rdTest_text {w : List UInt8} {t : Tst} (h : rdTest w = some t) : tstL t = w := by
 unfold rdTest at h
 cases hc : cutO w with
 | none => rw [hc] at h; cases h
 | some p =>
  obtain ⟨a, c, r⟩ := p
  rw [hc] at h
  simp only at h
  cases hn : numD r with
  | none => rw [hn] at h; cases h
  | some n =>
   rw [hn] at h
   obtain rfl := Option.some.inj h
   rw [cutO_eq hc]
   unfold tstL
   rw [numD_text hn]
theorem rdKey_text {w : List UInt8} {k : Kyt} (h : rdKey w = some k) : keyL k = w := by
 unfold rdKey at h
 cases hl : w.getLast? with
 | none => rw [hl] at h; cases h
 | some c =>
  rw [hl] at h
  simp only at h
  split at h
  ·rename_i hc
   simp only [Option.some.injEq] at h
   subst h
   obtain ⟨hne, hg⟩ := List.getLast?_eq_some_iff.1 hl
   unfold keyL
   rw [hg]
   simp only [List.dropLast_concat]
   rcases hc with rfl | rfl <;> rfl
  ·cases h
theorem rdTests_text : ∀ {ws : List (List UInt8)} {l : List Tst} {q : List (List UInt8)}, rdTests ws = some (l, q) → ws = l.map tstL ++ q ∧ (q = [] ∨ ∃ r, q = byL :: r)
 | [], l, q, h => by
  simp only [rdTests, Option.some.injEq, Prod.mk.injEq] at h
  obtain ⟨rfl, rfl⟩ := h
  exact ⟨rfl, .inl rfl⟩
 | w :: r, l, q, h => by
  rw [rdTests] at h
  split at h
  ·rename_i hw
   simp only [Option.some.injEq, Prod.mk.injEq] at h
   obtain ⟨rfl, rfl⟩ := h
   exact ⟨rfl, .inr ⟨r, by rw [hw]⟩⟩
  ·cases ht : rdTest w with
   | none => rw [ht] at h; cases h
   | some t =>
    rw [ht] at h
    simp only at h
    cases hr : rdTests r with
    | none => rw [hr] at h; cases h
    | some p =>
     obtain ⟨l', q'⟩ := p
     rw [hr] at h
     simp only [Option.map_some, Option.some.injEq, Prod.mk.injEq] at h
     obtain ⟨rfl, rfl⟩ := h
     have ih := rdTests_text hr
     exact ⟨by rw [ih.1, List.map_cons, rdTest_text ht]; rfl, ih.2⟩
theorem rdKeys_text : ∀ {ws : List (List UInt8)} {l : List Kyt}, rdKeys ws = some l → ws = l.map keyL
 | [], l, h => by
  simp only [rdKeys, Option.some.injEq] at h
  subst h; rfl
 | w :: r, l, h => by
  rw [rdKeys] at h
  cases hk : rdKey w with
  | none => rw [hk] at h; cases h
  | some k =>
   rw [hk] at h
   simp only at h
   cases hr : rdKeys r with
   | none => rw [hr] at h; cases h
   | some l' =>
    rw [hr] at h
    simp only [Option.map_some, Option.some.injEq] at h
    subst h
    rw [List.map_cons, rdKey_text hk, ← rdKeys_text hr]
theorem rdWhen_text {r : List (List UInt8)} {p : List Tst × List (List UInt8)} (h : rdWhen r = some p) : r = (if p.1.length = 0 then [] else whenL :: p.1.map tstL) ++ p.2 := by
 unfold rdWhen at h
 split at h
 ·simp only [Option.some.injEq] at h
  subst h; rfl
 ·rename_i w q
  split at h
  ·rename_i hw
   cases hq : rdTests q with
   | none => rw [hq] at h; cases h
   | some p' =>
    rw [hq] at h
    simp only [Option.bind_some] at h
    split at h
    ·cases h
    ·rename_i hne
     simp only [Option.some.injEq] at h
     subst h
     rw [if_neg (fun e => hne (List.length_eq_zero_iff.1 e)), hw, (rdTests_text hq).1]
     rfl
  ·simp only [Option.some.injEq] at h
   subst h; rfl
theorem rdBy_text {r : List (List UInt8)} {l : List Kyt} (h : rdBy r = some l) : r = if l.length = 0 then [] else byL :: l.map keyL := by
 unfold rdBy at h
 split at h
 ·simp only [Option.some.injEq] at h
  subst h; rfl
 ·rename_i w q
  split at h
  ·rename_i hw
   cases hq : rdKeys q with
   | none => rw [hq] at h; cases h
   | some l' =>
    rw [hq] at h
    simp only [Option.bind_some] at h
    split at h
    ·cases h
    ·rename_i hne
     simp only [Option.some.injEq] at h
     subst h
     rw [if_neg (fun e => hne (List.length_eq_zero_iff.1 e)), hw, rdKeys_text hq]
  ·cases h
theorem wsK_full (c : Cls) : wsK c c.ky.length = classL :: c.nm :: ((if c.wh.length = 0 then [] else whenL :: c.wh.map tstL) ++ if c.ky.length = 0 then [] else byL :: c.ky.map keyL) := by
 unfold wsK wsT
 rw [List.take_length, List.take_length]
 rfl
theorem rdClass_text {ws : List (List UInt8)} {c : Cls} (h : rdClass ws = some c) : classL :: ws = wsK c c.ky.length := by
 unfold rdClass at h
 split at h
 ·cases h
 ·rename_i nm r
  cases hw : rdWhen r with
  | none => rw [hw] at h; cases h
  | some p =>
   rw [hw] at h
   simp only [Option.bind_some] at h
   cases hb : rdBy p.2 with
   | none => rw [hb] at h; cases h
   | some ks =>
    rw [hb] at h
    simp only [Option.map_some, Option.some.injEq] at h
    subst h
    rw [wsK_full, rdWhen_text hw, rdBy_text hb]
theorem rdPool_text {cl : List Cls} {ws : List (List UInt8)} {p : Prg} (h : rdPool cl ws = some p) : poolL :: ws = poolW p ∧ p.cl = cl := by
 unfold rdPool at h
 split at h
 ·rename_i a s b o c
  split at h
  ·rename_i hso
   obtain ⟨rfl, rfl⟩ := hso
   cases ha : numD a with
   | none => rw [ha] at h; cases h
   | some x =>
    cases hb : numD b with
    | none => rw [ha, hb] at h; cases h
    | some y =>
     cases hc : numD c with
     | none => rw [ha, hb, hc] at h; cases h
     | some z =>
      rw [ha, hb, hc] at h
      obtain rfl := Option.some.inj h
      unfold poolW
      simp only [numD_text ha, numD_text hb, numD_text hc, and_self]
  ·cases h
 ·cases h
theorem rdWords_text {l : List UInt8} {ws : List (List UInt8)} (h : rdWords l = some ws) : l = joined 32 ws ++ [10] := by
 unfold rdWords at h
 split at h
 ·rename_i hc
  simp only [Option.some.injEq] at h
  subst h
  obtain ⟨hne, hg⟩ := List.getLast?_eq_some_iff.1 hc.1
  rw [joined_parts, hg, List.dropLast_concat]
 ·cases h
theorem rdLine_cls {cl : List Cls} {l : List UInt8} {c : Cls} (h : rdLine cl l = .cls c) : l = clsL c ∧ cl.length < 16 ∧ chkCa (nmsC cl) c = 0 := by
 unfold rdLine at h
 split at h
 ·cases h
 ·cases h
 ·rename_i w ws hw
  split at h
  ·split at h
   ·cases h
   ·split at h
    ·cases h
    ·split at h <;> cases h
  ·split at h
   ·rename_i he
    split at h
    ·cases h
    ·rename_i c' hr
     split at h
     ·cases h
     ·rename_i h16
      split at h
      ·rename_i hz
       simp only [LnR.cls.injEq] at h
       subst h
       rw [he] at hw
       rw [rdWords_text hw, rdClass_text hr]
       exact ⟨rfl, by omega, hz⟩
      ·cases h
   ·cases h
theorem rdLine_pool {cl : List Cls} {l : List UInt8} {p : Prg} (h : rdLine cl l = .pool p) : l = joined 32 (poolW p) ++ [10] ∧ p.cl = cl ∧ cl ≠ [] ∧ chkPool p = 0 := by
 unfold rdLine at h
 split at h
 ·cases h
 ·cases h
 ·rename_i w ws hw
  split at h
  ·rename_i he
   split at h
   ·cases h
   ·rename_i p' hr
    split at h
    ·cases h
    ·rename_i hne
     split at h
     ·rename_i hz
      simp only [LnR.pool.injEq] at h
      subst h
      rw [he] at hw
      have := rdPool_text hr
      rw [rdWords_text hw, this.1]
      exact ⟨rfl, this.2, hne, hz⟩
     ·cases h
  ·split at h
   ·split at h
    ·cases h
    ·split at h
     ·cases h
     ·split at h <;> cases h
   ·cases h
theorem rdLine_bad {cl : List Cls} {l : List UInt8} {e : Int} (h : rdLine cl l = .bad e) : e ≠ 0 := by
 unfold rdLine at h
 split at h
 ·cases h; decide
 ·cases h; decide
 ·split at h
  ·split at h
   ·cases h; decide
   ·split at h
    ·cases h; decide
    ·split at h
     ·cases h
     ·rename_i hz; cases h; exact hz
  ·split at h
   ·split at h
    ·cases h; decide
    ·split at h
     ·cases h; decide
     ·split at h
      ·cases h
      ·rename_i hz; cases h; exact hz
   ·cases h; decide
theorem chkCsG_app : ∀ {l : List Cls} {seen : List (List UInt8)} {c : Cls}, chkCsG seen l = 0 → chkCa (seen ++ nmsC l) c = 0 → chkCsG seen (l ++ [c]) = 0
 | [], seen, c, _, h => by
  rw [show nmsC [] = [] from rfl, List.append_nil] at h
  rw [List.nil_append, chkCsG, if_pos h, chkCsG]
 | x :: r, seen, c, h1, h2 => by
  rw [chkCsG] at h1
  by_cases hz : chkCa seen x = 0
  ·rw [if_pos hz] at h1
   rw [List.cons_append, chkCsG, if_pos hz]
   refine chkCsG_app h1 ?_
   rw [List.append_assoc]
   exact h2
  ·rw [if_neg hz] at h1
   exact absurd h1 hz
theorem rdG_text : ∀ (ls : List (List UInt8)) (cl : List Cls) (i : Nat), cl.length ≤ 16 → chkCsG [] cl = 0 → (rdG cl i ls).2.2 = 0 → (rdG cl i ls).2.1 = 0 ∧ chkPg (rdG cl i ls).1 = 0 ∧ prgL (rdG cl i ls).1 = cl.flatMap clsL ++ ls.flatten
 | [], cl, i, _, _, h => by cases h
 | l :: r, cl, i, hn, hc, h => by
  rw [rdG] at h ⊢
  cases hl : rdLine cl l with
  | bad e => rw [hl] at h; exact absurd h (rdLine_bad hl)
  | cls c =>
   rw [hl] at h
   simp only at h ⊢
   obtain ⟨h1, h2, h3⟩ := rdLine_cls hl
   have ih := rdG_text r (cl ++ [c]) (i + 1) (by rw [List.length_append, List.length_singleton]; omega) (chkCsG_app hc (by rw [List.nil_append]; exact h3)) h
   refine ⟨ih.1, ih.2.1, ?_⟩
   rw [ih.2.2, List.flatMap_append, List.flatten_cons, h1, List.append_assoc]
   simp
  | pool p =>
   rw [hl] at h
   simp only at h ⊢
   obtain ⟨h1, h2, h3, h4⟩ := rdLine_pool hl
   by_cases hr : r = []
   ·rw [if_pos hr]
    refine ⟨rfl, ?_, ?_⟩
    ·unfold chkPg
     rw [firstI_zero]
     have hp : ¬ p.cl.length = 0 := fun e => h3 (by rw [← h2]; exact List.length_eq_zero_iff.1 e)
     intro e he
     simp only [List.mem_cons, List.not_mem_nil, or_false] at he
     rcases he with rfl | rfl | rfl | rfl
     ·exact if_neg hp
     ·rw [h2]; exact if_neg (by omega)
     ·rw [h2]; exact hc
     ·exact h4
    ·rw [hr, List.flatten_cons, List.flatten_nil, List.append_nil, h1]
     unfold prgL
     rw [h2]
   ·rw [if_neg hr] at h
    cases h
theorem rdP_text {s : List UInt8} (h : (rdP s).2.2 = 0) : (rdP s).2.1 = 0 ∧ chkPg (rdP s).1 = 0 ∧ prgL (rdP s).1 = s := by
 unfold rdP at h ⊢
 by_cases hl : 4096 < s.length
 ·rw [if_pos hl] at h; cases h
 ·rw [if_neg hl] at h ⊢
  have := rdG_text (pcs s) [] 0 (by decide) rfl h
  rw [pcs_flat] at this
  exact this
theorem rdG_more : ∀ (ls : List (List UInt8)) (cl : List Cls) (i : Nat) (u : List (List UInt8)), u ≠ [] → (rdG cl i ls).2.2 = 0 → (rdG cl i (ls ++ u)).2.2 ≠ 0
 | [], cl, i, u, _, h => by cases h
 | l :: r, cl, i, u, hu, h => by
  rw [rdG] at h
  rw [List.cons_append, rdG]
  cases hl : rdLine cl l with
  | bad e => rw [hl] at h; exact absurd h (rdLine_bad hl)
  | cls c =>
   rw [hl] at h
   exact rdG_more r _ _ u hu h
  | pool p =>
   simp only
   rw [if_neg (fun e => hu (List.append_eq_nil_iff.1 e).2)]
   intro h; cases h
theorem pcs_cut : ∀ (s u : List UInt8), s.getLast? = some 10 → pcs (s ++ u) = pcs s ++ pcs u
 | [], u, h => by cases h
 | [c], u, h => by
  simp only [List.getLast?_singleton, Option.some.injEq] at h
  subst h
  simp [pcs]
 | c :: d :: r, u, h => by
  have ih := pcs_cut (d :: r) u (by rw [List.getLast?_cons_cons] at h; exact h)
  rw [List.cons_append, pcs, ih]
  conv => rhs; rw [pcs]
  by_cases hc : c = 10
  ·rw [if_pos hc, if_pos hc]; rfl
  ·rw [if_neg hc, if_neg hc]
   cases hp : pcs (d :: r) with
   | nil => exact absurd hp (pcs_ne (by simp))
   | cons p q => rfl
theorem cutO_of {a r : List UInt8} {c : UInt8} (hc : c = 61 ∨ c = 60 ∨ c = 62) : (∀ x ∈ a, ¬ (x = 61 ∨ x = 60 ∨ x = 62)) → cutO (a ++ c :: r) = some (a, c, r) := by
 induction a with
 | nil => intro _; rw [List.nil_append, cutO, if_pos hc]
 | cons x q ih =>
  intro h
  rw [List.cons_append, cutO, if_neg (h x (List.mem_cons_self ..)), ih fun y hy => h y (List.mem_cons_of_mem _ hy)]
  rfl
theorem fc_sign {s : List UInt8} (h : s ∈ fcL) : ∀ x ∈ s, ¬ (x = 61 ∨ x = 60 ∨ x = 62) := by
 simp only [fcL, List.mem_cons, List.not_mem_nil, or_false] at h
 rcases h with rfl | rfl | rfl | rfl | rfl | rfl | rfl | rfl | rfl | rfl <;> decide
theorem fc_vis {s : List UInt8} (h : s ∈ fcL) : vis s := by
 simp only [fcL, List.mem_cons, List.not_mem_nil, or_false] at h
 rcases h with rfl | rfl | rfl | rfl | rfl | rfl | rfl | rfl | rfl | rfl <;> (intro x hx; revert x; decide)
theorem chkTs_va {t : Tst} (h : chkTs t = 0) : 0 ≤ t.va ∧ t.va ≤ 999999999 := by
 unfold chkTs at h
 rw [firstI_zero] at h
 exact rng_zero.1 (h (rng t.va 0 999999999) (by simp))
theorem rdTest_of {t : Tst} (h : chkTs t = 0) : rdTest (tstL t) = some t := by
 obtain ⟨h1, h2⟩ := chkTs_zero h
 have h3 := chkTs_va h
 have key : ∀ c : UInt8, (c = 61 ∨ c = 60 ∨ c = 62) → t.op = [c] → rdTest (tstL t) = some t := fun c hc ho => by
  unfold rdTest tstL
  rw [ho, List.append_assoc, List.singleton_append, cutO_of hc (fc_sign h1)]
  simp only [numD_digits h3, Option.map_some, Option.some.injEq]
  have e : ((t.va.toNat : Nat) : Int) = t.va := by omega
  rw [e, ← ho]
 rcases h2 with e | e | e
 ·exact key 61 (.inl rfl) e
 ·exact key 60 (.inr (.inl rfl)) e
 ·exact key 62 (.inr (.inr rfl)) e
theorem rdKey_of (k : Kyt) : rdKey (keyL k) = some k := by
 unfold rdKey keyL
 cases k with
 | mk fa dn => cases dn <;> simp
theorem tst_ne_by {t : Tst} (h : chkTs t = 0) : ¬ tstL t = byL := fun e => by
 have := rdTest_of h
 rw [e] at this
 cases this
theorem rdTests_of : ∀ {l : List Tst} {q : List (List UInt8)}, (∀ t ∈ l, chkTs t = 0) → (q = [] ∨ ∃ r, q = byL :: r) → rdTests (l.map tstL ++ q) = some (l, q)
 | [], q, _, hq => by
  rcases hq with rfl | ⟨r, rfl⟩
  ·rfl
  ·rw [List.map_nil, List.nil_append, rdTests, if_pos rfl]
 | t :: r, q, h, hq => by
  have ht := h t (List.mem_cons_self ..)
  rw [List.map_cons, List.cons_append, rdTests, if_neg (tst_ne_by ht), rdTest_of ht, rdTests_of (fun x hx => h x (List.mem_cons_of_mem _ hx)) hq]
  rfl
theorem rdKeys_of : ∀ l : List Kyt, rdKeys (l.map keyL) = some l
 | [] => rfl
 | k :: r => by
  rw [List.map_cons, rdKeys, rdKey_of, rdKeys_of r]
  rfl
theorem rdClass_of {c : Cls} (h : OkCls c) : ∃ ws, wsK c c.ky.length = classL :: ws ∧ rdClass ws = some c := by
 rw [wsK_full]
 refine ⟨_, rfl, ?_⟩
 have hb : rdBy (if c.ky.length = 0 then [] else byL :: c.ky.map keyL) = some c.ky := by
  by_cases hk : c.ky.length = 0
  ·rw [if_pos hk, List.length_eq_zero_iff.1 hk]; rfl
  ·rw [if_neg hk]
   unfold rdBy
   simp only [if_pos, rdKeys_of, Option.bind_some]
   rw [if_neg (fun e => hk (by rw [e]; rfl))]
 have hw : rdWhen ((if c.wh.length = 0 then [] else whenL :: c.wh.map tstL) ++ if c.ky.length = 0 then [] else byL :: c.ky.map keyL) = some (c.wh, if c.ky.length = 0 then [] else byL :: c.ky.map keyL) := by
  by_cases hk : c.wh.length = 0
  ·rw [if_pos hk, List.nil_append, List.length_eq_zero_iff.1 hk]
   by_cases hy : c.ky.length = 0
   ·rw [if_pos hy]; rfl
   ·rw [if_neg hy]; rfl
  ·rw [if_neg hk, List.cons_append]
   unfold rdWhen
   simp only [if_pos]
   rw [rdTests_of h.ts (by by_cases hy : c.ky.length = 0 <;> simp [hy])]
   simp only [Option.bind_some]
   rw [if_neg (fun e => hk (by rw [e]; rfl))]
 unfold rdClass
 simp only [hw, Option.bind_some, hb, Option.map_some]
theorem rdPool_of {p : Prg} (h : OkPrg p) : ∃ ws, poolW p = poolL :: ws ∧ rdPool p.cl ws = some p := by
 refine ⟨_, rfl, ?_⟩
 have h1 := h.many
 have h2 := h.po
 have h3 := h.of'
 have h4 := h.fo
 unfold rdPool
 simp only [and_self, if_pos, numD_digits (show 0 ≤ p.po ∧ p.po ≤ 999999999 by omega), numD_digits (show 0 ≤ p.fo ∧ p.fo ≤ 999999999 by omega), numD_digits (show 0 ≤ p.of ∧ p.of ≤ 999999999 by omega), Option.bind_some, Option.map_some, Option.some.injEq]
 have e1 : ((p.po.toNat : Nat) : Int) = p.po := by omega
 have e2 : ((p.fo.toNat : Nat) : Int) = p.fo := by omega
 have e3 : ((p.of.toNat : Nat) : Int) = p.of := by omega
 rw [e1, e2, e3]
theorem vis_dec {n : Int} (h : 0 ≤ n ∧ n ≤ 999999999) : vis (decL n) := by
 have hn := numD_digits h
 unfold numD at hn
 split at hn
 ·cases hn
 ·intro x hx
  obtain ⟨i, hi, rfl⟩ := List.getElem_of_mem hx
  obtain ⟨d, hd⟩ := Lib.digit_of_decFrom _ _ _ hn i _ (List.getElem?_eq_getElem hi)
  have := (dv_of hd).2.2
  omega
theorem vis_tst {t : Tst} (h : chkTs t = 0) : vis (tstL t) := by
 obtain ⟨h1, h2⟩ := chkTs_zero h
 have h3 := vis_dec (chkTs_va h)
 intro x hx
 unfold tstL at hx
 rw [List.mem_append, List.mem_append] at hx
 rcases hx with (hx | hx) | hx
 ·exact fc_vis h1 x hx
 ·rcases h2 with e | e | e <;> (rw [e] at hx; simp only [List.mem_singleton] at hx; subst hx; decide)
 ·exact h3 x hx
theorem vis_key {k : Kyt} (h : k.fa ∈ fcL) : vis (keyL k) := by
 intro x hx
 unfold keyL at hx
 rw [List.mem_append] at hx
 rcases hx with hx | hx
 ·exact fc_vis h x hx
 ·simp only [List.mem_singleton] at hx
  subst hx
  split <;> decide
theorem vis_wsK {c : Cls} (h : OkCls c) : ∀ w ∈ wsK c c.ky.length, vis w ∧ w ≠ [] := by
 rw [wsK_full]
 have lit : vis classL ∧ vis whenL ∧ vis byL := by refine ⟨?_, ?_, ?_⟩ <;> (intro x hx; revert x; decide)
 intro w hw
 simp only [List.mem_cons, List.mem_append] at hw
 rcases hw with rfl | rfl | hw | hw
 ·exact ⟨lit.1, by decide⟩
 ·refine ⟨vis_name h.nm, fun e => ?_⟩
  have := h.nm
  rw [e] at this
  cases this
 ·split at hw
  ·cases hw
  ·simp only [List.mem_cons, List.mem_map] at hw
   rcases hw with rfl | ⟨t, ht, rfl⟩
   ·exact ⟨lit.2.1, by decide⟩
   ·refine ⟨vis_tst (h.ts t ht), fun e => ?_⟩
    have := rdTest_of (h.ts t ht)
    rw [e] at this
    cases this
 ·split at hw
  ·cases hw
  ·simp only [List.mem_cons, List.mem_map] at hw
   rcases hw with rfl | ⟨k, hk, rfl⟩
   ·exact ⟨lit.2.2, by decide⟩
   ·exact ⟨vis_key (h.ks k hk), by simp [keyL]⟩
theorem vis_poolW {p : Prg} (h : OkPrg p) : ∀ w ∈ poolW p, vis w ∧ w ≠ [] := by
 have h1 := h.many
 have h2 := h.po
 have h3 := h.of'
 have h4 := h.fo
 have ne : ∀ n : Int, decL n ≠ [] := fun n => digitsF_ne 19 n.toNat
 have lit : vis poolL ∧ vis shareL ∧ vis ofL := by refine ⟨?_, ?_, ?_⟩ <;> (intro x hx; revert x; decide)
 intro w hw
 simp only [poolW, List.mem_cons, List.not_mem_nil, or_false] at hw
 rcases hw with rfl | rfl | rfl | rfl | rfl | rfl
 ·exact ⟨lit.1, by decide⟩
 ·exact ⟨vis_dec (by omega), ne _⟩
 ·exact ⟨lit.2.1, by decide⟩
 ·exact ⟨vis_dec (by omega), ne _⟩
 ·exact ⟨lit.2.2, by decide⟩
 ·exact ⟨vis_dec (by omega), ne _⟩
theorem lf_joined {b : UInt8} (hb : b ≠ 10) : ∀ ws : List (List UInt8), (∀ w ∈ ws, vis w) → (10 : UInt8) ∉ joined b ws
 | [], _ => by simp [joined]
 | [x], h => by rw [joined]; exact (vis_no (h x (by simp))).2
 | x :: y :: r, h => by
  have ih := lf_joined hb (y :: r) fun w hw => h w (List.mem_cons_of_mem _ hw)
  rw [joined, List.mem_append, List.mem_cons]
  rintro (e | e | e)
  ·exact (vis_no (h x (by simp))).2 e
  ·exact hb e.symm
  ·exact ih e
theorem rdWords_of {ws : List (List UInt8)} (h0 : ws ≠ []) (h : ∀ w ∈ ws, vis w ∧ w ≠ []) : rdWords (joined 32 ws ++ [10]) = some ws := by
 unfold rdWords
 rw [List.dropLast_concat, parts_joined 32 ws h0 fun w hw => (vis_no (h w hw).1).1, if_pos]
 exact ⟨by simp, fun hm => (h [] hm).2 rfl⟩
theorem pcs_prg {p : Prg} (h : OkPrg p) : pcs (prgL p) = p.cl.map clsL ++ [joined 32 (poolW p) ++ [10]] := by
 unfold prgL
 have hc := h.cs
 generalize p.cl = l at hc
 induction l with
 | nil =>
  rw [List.flatMap_nil, List.nil_append, List.map_nil, List.nil_append, pcs_lf _ [] (lf_joined (by decide) _ fun w hw => (vis_poolW h w hw).1), pcs_nil]
 | cons c r ih =>
  rw [List.flatMap_cons, List.map_cons, List.cons_append, ← ih fun x hx => hc x (List.mem_cons_of_mem _ hx)]
  have hl := lf_joined (b := 32) (by decide) _ fun w hw => (vis_wsK (hc c (List.mem_cons_self ..)) w hw).1
  unfold clsL
  rw [List.append_assoc, List.append_assoc, List.singleton_append, pcs_lf _ _ hl]
theorem rdLine_of {cl : List Cls} {c : Cls} (h : OkCls c) (h16 : cl.length < 16) (hz : chkCa (nmsC cl) c = 0) : rdLine cl (clsL c) = .cls c := by
 obtain ⟨ws, e, hr⟩ := rdClass_of h
 unfold rdLine clsL
 rw [rdWords_of (by rw [e]; simp) (vis_wsK h), e]
 simp only
 rw [if_neg (by decide), if_pos trivial, hr]
 simp only
 rw [if_neg (by omega), if_pos hz]
theorem rdG_of {p : Prg} (h : OkPrg p) (hz : chkPool p = 0) : ∀ (r cl : List Cls) (i : Nat), p.cl = cl ++ r → chkCsG (nmsC cl) r = 0 → rdG cl i (r.map clsL ++ [joined 32 (poolW p) ++ [10]]) = (p, 0, 0)
 | [], cl, i, e, _ => by
  rw [List.append_nil] at e
  obtain ⟨ws, e1, hr⟩ := rdPool_of h
  have hone := h.one
  rw [List.map_nil, List.nil_append, rdG]
  have : rdLine cl (joined 32 (poolW p) ++ [10]) = .pool p := by
   unfold rdLine
   rw [rdWords_of (by rw [e1]; simp) (vis_poolW h), e1]
   simp only
   rw [if_pos trivial, ← e, hr]
   simp only
   rw [if_neg (fun e' => by rw [e'] at hone; exact absurd hone (by decide)), if_pos hz]
  rw [this]
  simp only [if_pos]
 | c :: r, cl, i, e, hc => by
  rw [chkCsG] at hc
  by_cases hq : chkCa (nmsC cl) c = 0
  ·rw [if_pos hq] at hc
   have hm := h.many
   rw [e, List.length_append, List.length_cons] at hm
   rw [List.map_cons, List.cons_append, rdG, rdLine_of (h.cs c (by rw [e]; simp)) (by omega) hq]
   simp only
   refine rdG_of h hz r (cl ++ [c]) (i + 1) (by rw [e, List.append_assoc]; rfl) ?_
   rw [show nmsC (cl ++ [c]) = nmsC cl ++ [c.nm] by simp [nmsC]]
   exact hc
  ·rw [if_neg hq] at hc
   exact absurd hc hq
theorem rdP_of {p : Prg} (h : chkPg p = 0) (hl : (prgL p).length ≤ 4096) : rdP (prgL p) = (p, 0, 0) := by
 have ho := chkPg_zero h
 have h' := h
 unfold chkPg at h'
 rw [firstI_zero] at h'
 unfold rdP
 rw [if_neg (by omega), pcs_prg ho]
 exact rdG_of ho (h' (chkPool p) (by simp)) p.cl [] 0 rfl (h' (chkCsG [] p.cl) (by simp))
theorem prgL_last (p : Prg) : (prgL p).getLast? = some 10 := by
 unfold prgL
 rw [← List.append_assoc]
 simp
theorem rdP_part {p : Prg} (h : chkPg p = 0) (hl : (prgL p).length ≤ 4096) {n : Nat} (hn : n < (prgL p).length) : (rdP ((prgL p).take n)).2.2 ≠ 0 := by
 intro hz
 have ht := rdP_text hz
 have hlast : ((prgL p).take n).getLast? = some 10 := by rw [← ht.2.2]; exact prgL_last _
 have hsplit := List.take_append_drop n (prgL p)
 have hd : (prgL p).drop n ≠ [] := fun e => by
  have := congrArg List.length e
  rw [List.length_drop] at this
  simp at this
  omega
 have h1 := rdP_of h hl
 unfold rdP at hz h1
 rw [if_neg (by omega)] at h1
 rw [if_neg (by rw [List.length_take]; omega)] at hz
 rw [← hsplit, pcs_cut _ _ hlast] at h1
 exact rdG_more _ _ _ _ (pcs_ne hd) hz (by rw [h1])
end Go.Proofs.YthmfkkpmjcbgeaaGreatDoor.Co
/-
 Messages: the parts of a text between blanks.
-/
namespace Go.Proofs.YthmfkkpmjcbgeaaGreatDoor.Co
open Go Go.Evl
abbrev LS (l : List (List UInt8)) : V := .d (.list l.length (l.map D.str))
section
variable {E : Oracle} (g : Good E)
include g
theorem s_Split (s : List UInt8) (hs : s.length ≤ 1000000) : Fc E n_strings_Split [S s, S [32]] (LS (parts 32 s)) := by
 refine Fc.extern g.lim (x := splitX) rfl (v := LS (parts 32 s)) (m' := []) ?_ rfl
 simp only [splitX, splitD_parts]
 rw [if_pos ⟨hs, by simp⟩]
end
end Go.Proofs.YthmfkkpmjcbgeaaGreatDoor.Co
/-
 Priority: the reference's reading of words: numbers, conditions, keys, pools; lines and their words.
-/
namespace Go.Proofs.YthmfkkpmjcbgeaaGreatDoor.Co
open Go Go.Evl
theorem Pick.strI {l : List (List UInt8)} {i : Int} {K : D → Prop} (k : Nat) (hi : i = k) (h : k < l.length) (hk : K (.str l[k])) : Pick (l.map D.str) (i.toNat * 1) K := by
 subst hi
 refine ⟨⟨_, ?_, hk⟩⟩
 simp [h]
def rkV (w : List UInt8) : Kyt × Bool := (⟨w.dropLast, decide ((w.getD (w.length - 1) 0).toNat = 45)⟩, decide ((w.getD (w.length - 1) 0).toNat = 43 ∨ (w.getD (w.length - 1) 0).toNat = 45))
theorem rkV_eq {w : List UInt8} (h : w ≠ []) : rdKey w = if (rkV w).2 = true then some (rkV w).1 else none := by
 have hl : w.length - 1 < w.length := by have := List.length_pos_iff.2 h; omega
 have e : w.getD (w.length - 1) 0 = w[w.length - 1] := by simp [List.getD, hl]
 unfold rdKey rkV
 rw [List.getLast?_eq_getElem?, List.getElem?_eq_getElem hl, e]
 simp only
 have hc : ∀ b : UInt8, (w[w.length - 1] = b) = (w[w.length - 1].toNat = b.toNat) := fun b => propext UInt8.toNat_inj.symm
 have e1 := hc 43
 have e2 := hc 45
 have t1 : (43 : UInt8).toNat = 43 := rfl
 have t2 : (45 : UInt8).toNat = 45 := rfl
 rw [t1] at e1
 rw [t2] at e2
 simp only [e1, e2, decide_eq_true_eq]
end Go.Proofs.YthmfkkpmjcbgeaaGreatDoor.Co
/-
 Priority: Print, by the program and by the reference.
-/
namespace Go.Proofs.YthmfkkpmjcbgeaaGreatDoor.Co
open Go Go.Evl
set_option maxRecDepth 100000
def pgT (c : Cls) (k : Nat) : List (List UInt8) := (wsT c 0 ++ if 0 < c.wh.length then [whenL] else []) ++ (c.wh.take k).map tstL
def pgK (c : Cls) (k : Nat) : List (List UInt8) := (wsT c c.wh.length ++ if 0 < c.ky.length then [byL] else []) ++ (c.ky.take k).map keyL
theorem pgT_succ (c : Cls) {k : Nat} (h : k < c.wh.length) : pgT c (k + 1) = pgT c k ++ [tstL c.wh[k]] := by
 unfold pgT
 rw [List.take_add_one, List.getElem?_eq_getElem h, Option.toList_some, List.map_append, ← List.append_assoc]
 rfl
theorem pgK_succ (c : Cls) {k : Nat} (h : k < c.ky.length) : pgK c (k + 1) = pgK c k ++ [keyL c.ky[k]] := by
 unfold pgK
 rw [List.take_add_one, List.getElem?_eq_getElem h, Option.toList_some, List.map_append, ← List.append_assoc]
 rfl
theorem pgT_end (c : Cls) : pgT c c.wh.length = wsT c c.wh.length := by
 unfold pgT wsT
 by_cases h : 0 < c.wh.length
 ·rw [if_pos h, if_pos rfl, if_neg (by omega)]
  simp
 ·have e : c.wh = [] := List.length_eq_zero_iff.1 (by omega)
  simp [e]
theorem pgK_end (c : Cls) : pgK c c.ky.length = wsK c c.ky.length := by
 unfold pgK wsK
 by_cases h : 0 < c.ky.length
 ·rw [if_pos h, if_neg (by omega)]
  simp
 ·have e : c.ky = [] := List.length_eq_zero_iff.1 (by omega)
  simp [e]
theorem pgT_zero {c : Cls} (h : 0 < c.wh.length) : pgT c 0 = [[99, 108, 97, 115, 115], c.nm, whenL] := by
 unfold pgT
 rw [if_pos h]
 rfl
theorem pgK_zero {c : Cls} (h : 0 < c.ky.length) : pgK c 0 = wsT c c.wh.length ++ [byL] := by
 unfold pgK
 rw [if_pos h]
 simp
theorem pgT_le {c : Cls} (h : OkCls c) {k : Nat} (hk : k ≤ c.wh.length) : (pgT c k).length ≤ 20 := by
 have := h.wh
 unfold pgT
 rw [List.length_append, List.length_append, List.length_map, List.length_take]
 split <;> simp [wsT] <;> omega
theorem pgK_le {c : Cls} (h : OkCls c) {k : Nat} (hk : k ≤ c.ky.length) : (pgK c k).length ≤ 30 := by
 have := h.ky
 have h1 := (wsT_len h c.wh.length).1
 unfold pgK
 rw [List.length_append, List.length_append, List.length_map, List.length_take]
 split <;> simp <;> omega
def bldV : Nat → V
 | 0 => .d .nilp
 | _ + 1 => .ptr ⟨0, 5, 1⟩ 0 0
def txtC (p : Prg) (k : Nat) : List UInt8 := (p.cl.take k).flatMap clsL
section
variable {E : Oracle} (g : Good E)
include g
theorem s_Dec (n : Int) (h : 0 ≤ n ∧ n ≤ 999999999) : Fc E n_strconv_Itoa [I n] (S (decL n)) := s_Itoa g n (by omega)
theorem s_sign (k : Kyt) : Fc E n_priority_Key_sign [Kyv k] (S [if k.dn = true then 45 else 43]) := by
 refine g.fn rfl rfl ?_
 obtain ⟨fa, dn⟩ := k
 cases dn
 all_goals repeat' ((conv => whnf); first
 | refine Yz ?_
  | (refine Ret.mk rfl))
set_option maxHeartbeats 32000000 in
theorem s_Print (p : Prg) (h : chkPg p = 0) : Fc E n_priority_Print [Pgv p] (.tup [S (prgL p), I 0]) := by
 refine g.fn rfl rfl ?_
 have ok := chkPg_zero h
 have h1 := s_CheckProgram g p ok.small
 rw [h] at h1
 have hmany := ok.many
 repeat' ((conv => whnf); first
 | refine Yz ?_
  | (apply CallI.of; assumption))
 refine LoopW.to (LoopW.up g (fun k => [(1, .ptr ⟨0, 1, 0⟩ 0 0), (5, .ptr ⟨0, 5, 1⟩ 0 0), (6, .fn n_priority_Print_1 [] [.ptr ⟨0, 5, 1⟩ 0 0]), (21, LC p.cl), (22, I p.cl.length), (23, I k)])
  (fun k => [(⟨0, 1, 0⟩, .cells ty_priority_Program [LC p.cl, I p.po, I p.of, I p.fo]), (⟨0, 5, 0⟩, .row false ty_uint8 1 (txtC p k).length (byD (txtC p k))), (⟨0, 5, 1⟩, .cells ty_strings_Builder [bldV k, .ref ⟨0, 5, 0⟩ 0 (txtC p k).length (txtC p k).length])])
  p.cl.length (fun k hk ih => ?_) 0 (Nat.zero_le _)) rfl rfl
 have hbl := byD_len (txtC p k)
 have htl : (txtC p k).length ≤ 9936 := txtC_len ok k
 by_cases hlt : k < p.cl.length
 ·have ih := ih hlt
  have okc := ok.cs _ (List.getElem_mem hlt)
  have hs : txtC p (k + 1) = txtC p k ++ (joined 32 (wsK p.cl[k] p.cl[k].ky.length) ++ [10]) := txtC_succ hlt
  generalize hx : p.cl[k] = c at *
  have lw := okc.wh
  have lk := okc.ky
  have hjn : ∀ {n : Nat} {cs : List D}, n = (wsK c c.ky.length).length → cs = (wsK c c.ky.length).map D.str → Fc E n_strings_Join [.d (.list n cs), S [32]] (S (joined 32 (wsK c c.ky.length))) := fun h1 h2 => by
   subst h1 h2
   exact s_Join g _ (wsK_ne _ _) (Nat.le_trans (wsK_len okc _).1 (by decide)) (Nat.le_trans (jK_len okc _) (by decide))
  have hjl := jK_len okc c.ky.length
  rw [hs, byD_app, List.length_append] at ih
  generalize hJ : joined 32 (wsK c c.ky.length) = J at *
  generalize txtC p k = X at *
  rcases k with _ | k
  ·by_cases hw : 0 < c.wh.length
   ·repeat' ((conv => whnf); first
   | refine Yz ?_
     | (refine PickW.rec Cls.cells_length _ rfl hlt ?_; rw [hx]))
    refine LoopW.to (LoopW.up g (fun j => [(1, .ptr ⟨0, 1, 0⟩ 0 0), (5, .ptr ⟨0, 5, 1⟩ 0 0), (6, .fn n_priority_Print_1 [] [.ptr ⟨0, 5, 1⟩ 0 0]), (8, .ptr ⟨0, 8, 0⟩ 0 0), (9, .ref ⟨0, 29, 0⟩ 0 (pgT c j).length (pgT c j).length), (21, LC p.cl), (22, I p.cl.length), (23, I 0), (38, LT c.wh), (39, I c.wh.length), (40, I j)])
     (fun j => [(⟨0, 1, 0⟩, .cells ty_priority_Program [LC p.cl, I p.po, I p.of, I p.fo]), (⟨0, 5, 0⟩, .row false ty_uint8 1 X.length (byD X)), (⟨0, 5, 1⟩, .cells ty_strings_Builder [.d .nilp, .ref ⟨0, 5, 0⟩ 0 X.length X.length]), (⟨0, 8, 0⟩, .cells ty_priority_Class [S c.nm, LT c.wh, LK c.ky]), (⟨0, 29, 0⟩, .row false ty_string 1 (pgT c j).length ((pgT c j).map D.str))])
     c.wh.length (fun j hj jh => ?_) 0 (Nat.zero_le _)) (by rw [pgT_zero hw]; rfl) (by rw [pgT_zero hw]; rfl)
    have hpl := pgT_le okc hj
    by_cases hjl : j < c.wh.length
    ·replace jh := jh hjl
     rw [pgT_succ c hjl] at jh
     have ht := okc.ts _ (List.getElem_mem hjl)
     have htl := tstL_len ht
     generalize hy : c.wh[j] = t at *
     have hd := s_Dec g t.va (rng_zero.1 ((firstI_zero _).1 ht (rng t.va 0 999999999) (by simp)))
     unfold tstL at htl jh
     generalize pgT c j = W at *
     simp only [List.length_append] at htl
     simp only [List.length_append, List.length_cons, List.length_nil, List.map_append, List.map_cons, List.map_nil] at jh
     repeat' ((conv => whnf); first
     | refine Yz ?_
      | (refine PickW.rec Tst.cells_length j rfl hjl ?_; rw [hy])
      | (apply CallI.of; assumption)
      | (refine Need.mk (by simp only [maxStr, List.length_append]; omega) ?_)
      | (refine Need.mk (by simp only [List.length_cons, List.length_nil, List.length_map]; omega) ?_)
      | (refine LoopW.to jh rfl rfl))
    ·have hj' : j = c.wh.length := by omega
     subst hj'
     rw [pgT_end]
     have hwl := (wsT_len okc c.wh.length).1
     by_cases hk : 0 < c.ky.length
     ·have e0 : pgK c 0 = wsT c c.wh.length ++ [byL] := by
       rw [pgK_zero hk]
      rw [← pgK_end] at hjn
      repeat' ((conv => whnf); first
      | refine Yz ?_
       | (refine Need.mk (by simp only [List.length_cons, List.length_nil, List.length_map]; omega) ?_))
      refine LoopW.to (LoopW.up g (fun j => [(1, .ptr ⟨0, 1, 0⟩ 0 0), (5, .ptr ⟨0, 5, 1⟩ 0 0), (6, .fn n_priority_Print_1 [] [.ptr ⟨0, 5, 1⟩ 0 0]), (9, .ref ⟨0, 29, 0⟩ 0 (pgK c j).length (pgK c j).length), (21, LC p.cl), (22, I p.cl.length), (23, I 0), (65, LK c.ky), (66, I c.ky.length), (67, I j)])
       (fun j => [(⟨0, 1, 0⟩, .cells ty_priority_Program [LC p.cl, I p.po, I p.of, I p.fo]), (⟨0, 5, 0⟩, .row false ty_uint8 1 X.length (byD X)), (⟨0, 5, 1⟩, .cells ty_strings_Builder [.d .nilp, .ref ⟨0, 5, 0⟩ 0 X.length X.length]), (⟨0, 8, 0⟩, .cells ty_priority_Class [S c.nm, LT c.wh, LK c.ky]), (⟨0, 29, 0⟩, .row false ty_string 1 (pgK c j).length ((pgK c j).map D.str))])
       c.ky.length (fun j hj jh => ?_) 0 (Nat.zero_le _)) (by rw [e0]; simp only [List.length_append, List.length_cons, List.length_nil]; rfl) (by rw [e0]; simp only [List.length_append, List.length_cons, List.length_nil, List.map_append, List.map_cons, List.map_nil]; rfl)
      have hpl := pgK_le okc hj
      by_cases hjl : j < c.ky.length
      ·replace jh := jh hjl
       rw [pgK_succ c hjl] at jh
       have htl := keyL_len (okc.ks _ (List.getElem_mem hjl))
       generalize hy : c.ky[j] = t at *
       have hd := s_sign g t
       unfold keyL at htl jh
       generalize (if t.dn = true then (45 : UInt8) else 43) = sg at *
       generalize pgK c j = W at *
       simp only [List.length_append] at htl
       simp only [List.length_append, List.length_cons, List.length_nil, List.map_append, List.map_cons, List.map_nil] at jh
       repeat' ((conv => whnf); first
       | refine Yz ?_
        | (refine PickW.rec Kyt.cells_length j rfl hjl ?_; rw [hy])
        | (apply CallI.of; assumption)
        | (refine Need.mk (by simp only [maxStr, List.length_cons, List.length_nil] at *; omega) ?_)
        | (refine Need.mk (by simp only [List.length_cons, List.length_nil, List.length_map]; omega) ?_)
        | (refine LoopW.to jh rfl rfl))
      ·have hj' : j = c.ky.length := by omega
       subst hj'
       generalize pgK c c.ky.length = W at *
       repeat' ((conv => whnf); first
       | refine Yz ?_
        | (refine LoopW.step (body := b_priority_Print_2) g.lim ?_)
        | (refine In.enter (f := n_priority_Print_1) g.lim rfl rfl ?_)
        | (refine CallI.of (hjn rfl (if_pos ⟨rfl, rfl⟩)) ?_)
        | (refine Need.mk (by simp only [maxStr, List.length_cons, List.length_nil]; omega) ?_)
        | (refine Need.mk (by simp [Evl.bytesD] <;> omega) ?_)
        | (refine In.enter (f := n_strings_Builder_WriteString) g.lim rfl rfl ?_)
        | (refine In.extern g.lim (x := copyX ty_strings_Builder) rfl rfl ?_)
        | (refine Some'.mk ⟨_, rfl, ?_⟩)
        | (refine LoopW.to ih rfl ?_))
       simp only [List.length_append, List.length_cons, List.length_nil]
       rfl
     ·have hK0 : wsK c c.ky.length = wsT c c.wh.length := by
       rw [show c.ky.length = 0 by omega, wsK_zero]
      rw [hK0] at hjn
      generalize wsT c c.wh.length = W at *
      repeat' ((conv => whnf); first
      | refine Yz ?_
       | (refine LoopW.step (body := b_priority_Print_2) g.lim ?_)
       | (refine In.enter (f := n_priority_Print_1) g.lim rfl rfl ?_)
       | (refine CallI.of (hjn rfl (if_pos ⟨rfl, rfl⟩)) ?_)
       | (refine Need.mk (by simp only [maxStr, List.length_cons, List.length_nil]; omega) ?_)
       | (refine Need.mk (by simp [Evl.bytesD] <;> omega) ?_)
       | (refine In.enter (f := n_strings_Builder_WriteString) g.lim rfl rfl ?_)
       | (refine In.extern g.lim (x := copyX ty_strings_Builder) rfl rfl ?_)
       | (refine Some'.mk ⟨_, rfl, ?_⟩)
       | (refine LoopW.to ih rfl ?_))
      simp only [List.length_append, List.length_cons, List.length_nil]
      rfl
   ·have hT : wsT c c.wh.length = [[99, 108, 97, 115, 115], c.nm] := by
     rw [show c.wh.length = 0 by omega]
     rfl
    by_cases hk : 0 < c.ky.length
    ·have e0 : pgK c 0 = [[99, 108, 97, 115, 115], c.nm, byL] := by
      rw [pgK_zero hk, hT]
      rfl
     rw [← pgK_end] at hjn
     repeat' ((conv => whnf); first
     | refine Yz ?_
      | (refine PickW.rec Cls.cells_length _ rfl hlt ?_; rw [hx])
      | (refine LoopW.step (body := b_priority_Print_1) g.lim ?_)
      | (refine Need.mk (by simp only [List.length_cons, List.length_nil, List.length_map]; omega) ?_))
     refine LoopW.to (LoopW.up g (fun j => [(1, .ptr ⟨0, 1, 0⟩ 0 0), (5, .ptr ⟨0, 5, 1⟩ 0 0), (6, .fn n_priority_Print_1 [] [.ptr ⟨0, 5, 1⟩ 0 0]), (9, .ref ⟨0, 29, 0⟩ 0 (pgK c j).length (pgK c j).length), (21, LC p.cl), (22, I p.cl.length), (23, I 0), (65, LK c.ky), (66, I c.ky.length), (67, I j)])
      (fun j => [(⟨0, 1, 0⟩, .cells ty_priority_Program [LC p.cl, I p.po, I p.of, I p.fo]), (⟨0, 5, 0⟩, .row false ty_uint8 1 X.length (byD X)), (⟨0, 5, 1⟩, .cells ty_strings_Builder [.d .nilp, .ref ⟨0, 5, 0⟩ 0 X.length X.length]), (⟨0, 8, 0⟩, .cells ty_priority_Class [S c.nm, LT c.wh, LK c.ky]), (⟨0, 29, 0⟩, .row false ty_string 1 (pgK c j).length ((pgK c j).map D.str))])
      c.ky.length (fun j hj jh => ?_) 0 (Nat.zero_le _)) (by rw [e0]; dsimp only; rfl) (by rw [e0]; dsimp only; rfl)
     have hpl := pgK_le okc hj
     by_cases hjl : j < c.ky.length
     ·replace jh := jh hjl
      rw [pgK_succ c hjl] at jh
      have htl := keyL_len (okc.ks _ (List.getElem_mem hjl))
      generalize hy : c.ky[j] = t at *
      have hd := s_sign g t
      unfold keyL at htl jh
      generalize (if t.dn = true then (45 : UInt8) else 43) = sg at *
      generalize pgK c j = W at *
      simp only [List.length_append] at htl
      simp only [List.length_append, List.length_cons, List.length_nil, List.map_append, List.map_cons, List.map_nil] at jh
      repeat' ((conv => whnf); first
      | refine Yz ?_
       | (refine PickW.rec Kyt.cells_length j rfl hjl ?_; rw [hy])
       | (apply CallI.of; assumption)
       | (refine Need.mk (by simp only [maxStr, List.length_cons, List.length_nil] at *; omega) ?_)
       | (refine Need.mk (by simp only [List.length_cons, List.length_nil, List.length_map]; omega) ?_)
       | (refine LoopW.to jh rfl rfl))
     ·have hj' : j = c.ky.length := by omega
      subst hj'
      generalize pgK c c.ky.length = W at *
      repeat' ((conv => whnf); first
      | refine Yz ?_
       | (refine LoopW.step (body := b_priority_Print_2) g.lim ?_)
       | (refine In.enter (f := n_priority_Print_1) g.lim rfl rfl ?_)
       | (refine CallI.of (hjn rfl (if_pos ⟨rfl, rfl⟩)) ?_)
       | (refine Need.mk (by simp only [maxStr, List.length_cons, List.length_nil]; omega) ?_)
       | (refine Need.mk (by simp [Evl.bytesD] <;> omega) ?_)
       | (refine In.enter (f := n_strings_Builder_WriteString) g.lim rfl rfl ?_)
       | (refine In.extern g.lim (x := copyX ty_strings_Builder) rfl rfl ?_)
       | (refine Some'.mk ⟨_, rfl, ?_⟩)
       | (refine LoopW.to ih rfl ?_))
      simp only [List.length_append, List.length_cons, List.length_nil]
      rfl
    ·have hK0 : wsK c c.ky.length = wsT c c.wh.length := by
      rw [show c.ky.length = 0 by omega, wsK_zero]
     rw [hK0, hT] at hjn
 
     repeat' ((conv => whnf); first
     | refine Yz ?_
      | (refine PickW.rec Cls.cells_length _ rfl hlt ?_; rw [hx])
      | (refine LoopW.step (body := b_priority_Print_1) g.lim ?_)
      | (refine LoopW.step (body := b_priority_Print_2) g.lim ?_)
      | (refine In.enter (f := n_priority_Print_1) g.lim rfl rfl ?_)
      | (refine CallI.of (hjn rfl (if_pos ⟨rfl, rfl⟩)) ?_)
      | (refine Need.mk (by simp only [maxStr, List.length_cons, List.length_nil]; omega) ?_)
      | (refine Need.mk (by simp [Evl.bytesD] <;> omega) ?_)
      | (refine In.enter (f := n_strings_Builder_WriteString) g.lim rfl rfl ?_)
      | (refine In.extern g.lim (x := copyX ty_strings_Builder) rfl rfl ?_)
      | (refine Some'.mk ⟨_, rfl, ?_⟩)
      | (refine LoopW.to ih rfl ?_))
     simp only [List.length_append, List.length_cons, List.length_nil]
     rfl
  ·by_cases hw : 0 < c.wh.length
   ·repeat' ((conv => whnf); first
   | refine Yz ?_
     | (refine PickW.rec Cls.cells_length _ rfl hlt ?_; rw [hx]))
    refine LoopW.to (LoopW.up g (fun j => [(1, .ptr ⟨0, 1, 0⟩ 0 0), (5, .ptr ⟨0, 5, 1⟩ 0 0), (6, .fn n_priority_Print_1 [] [.ptr ⟨0, 5, 1⟩ 0 0]), (8, .ptr ⟨0, 8, 0⟩ 0 0), (9, .ref ⟨0, 29, 0⟩ 0 (pgT c j).length (pgT c j).length), (21, LC p.cl), (22, I p.cl.length), (23, I (k + 1 : Nat)), (38, LT c.wh), (39, I c.wh.length), (40, I j)])
     (fun j => [(⟨0, 1, 0⟩, .cells ty_priority_Program [LC p.cl, I p.po, I p.of, I p.fo]), (⟨0, 5, 0⟩, .row false ty_uint8 1 X.length (byD X)), (⟨0, 5, 1⟩, .cells ty_strings_Builder [.ptr ⟨0, 5, 1⟩ 0 0, .ref ⟨0, 5, 0⟩ 0 X.length X.length]), (⟨0, 8, 0⟩, .cells ty_priority_Class [S c.nm, LT c.wh, LK c.ky]), (⟨0, 29, 0⟩, .row false ty_string 1 (pgT c j).length ((pgT c j).map D.str))])
     c.wh.length (fun j hj jh => ?_) 0 (Nat.zero_le _)) (by rw [pgT_zero hw]; rfl) (by rw [pgT_zero hw]; rfl)
    have hpl := pgT_le okc hj
    by_cases hjl : j < c.wh.length
    ·replace jh := jh hjl
     rw [pgT_succ c hjl] at jh
     have ht := okc.ts _ (List.getElem_mem hjl)
     have htl := tstL_len ht
     generalize hy : c.wh[j] = t at *
     have hd := s_Dec g t.va (rng_zero.1 ((firstI_zero _).1 ht (rng t.va 0 999999999) (by simp)))
     unfold tstL at htl jh
     generalize pgT c j = W at *
     simp only [List.length_append] at htl
     simp only [List.length_append, List.length_cons, List.length_nil, List.map_append, List.map_cons, List.map_nil] at jh
     repeat' ((conv => whnf); first
     | refine Yz ?_
      | (refine PickW.rec Tst.cells_length j rfl hjl ?_; rw [hy])
      | (apply CallI.of; assumption)
      | (refine Need.mk (by simp only [maxStr, List.length_append]; omega) ?_)
      | (refine Need.mk (by simp only [List.length_cons, List.length_nil, List.length_map]; omega) ?_)
      | (refine LoopW.to jh rfl rfl))
    ·have hj' : j = c.wh.length := by omega
     subst hj'
     rw [pgT_end]
     have hwl := (wsT_len okc c.wh.length).1
     by_cases hk : 0 < c.ky.length
     ·have e0 : pgK c 0 = wsT c c.wh.length ++ [byL] := by
       rw [pgK_zero hk]
      rw [← pgK_end] at hjn
      repeat' ((conv => whnf); first
      | refine Yz ?_
       | (refine Need.mk (by simp only [List.length_cons, List.length_nil, List.length_map]; omega) ?_))
      refine LoopW.to (LoopW.up g (fun j => [(1, .ptr ⟨0, 1, 0⟩ 0 0), (5, .ptr ⟨0, 5, 1⟩ 0 0), (6, .fn n_priority_Print_1 [] [.ptr ⟨0, 5, 1⟩ 0 0]), (9, .ref ⟨0, 29, 0⟩ 0 (pgK c j).length (pgK c j).length), (21, LC p.cl), (22, I p.cl.length), (23, I (k + 1 : Nat)), (65, LK c.ky), (66, I c.ky.length), (67, I j)])
       (fun j => [(⟨0, 1, 0⟩, .cells ty_priority_Program [LC p.cl, I p.po, I p.of, I p.fo]), (⟨0, 5, 0⟩, .row false ty_uint8 1 X.length (byD X)), (⟨0, 5, 1⟩, .cells ty_strings_Builder [.ptr ⟨0, 5, 1⟩ 0 0, .ref ⟨0, 5, 0⟩ 0 X.length X.length]), (⟨0, 8, 0⟩, .cells ty_priority_Class [S c.nm, LT c.wh, LK c.ky]), (⟨0, 29, 0⟩, .row false ty_string 1 (pgK c j).length ((pgK c j).map D.str))])
       c.ky.length (fun j hj jh => ?_) 0 (Nat.zero_le _)) (by rw [e0]; simp only [List.length_append, List.length_cons, List.length_nil]; rfl) (by rw [e0]; simp only [List.length_append, List.length_cons, List.length_nil, List.map_append, List.map_cons, List.map_nil]; rfl)
      have hpl := pgK_le okc hj
      by_cases hjl : j < c.ky.length
      ·replace jh := jh hjl
       rw [pgK_succ c hjl] at jh
       have htl := keyL_len (okc.ks _ (List.getElem_mem hjl))
       generalize hy : c.ky[j] = t at *
       have hd := s_sign g t
       unfold keyL at htl jh
       generalize (if t.dn = true then (45 : UInt8) else 43) = sg at *
       generalize pgK c j = W at *
       simp only [List.length_append] at htl
       simp only [List.length_append, List.length_cons, List.length_nil, List.map_append, List.map_cons, List.map_nil] at jh
       repeat' ((conv => whnf); first
       | refine Yz ?_
        | (refine PickW.rec Kyt.cells_length j rfl hjl ?_; rw [hy])
        | (apply CallI.of; assumption)
        | (refine Need.mk (by simp only [maxStr, List.length_cons, List.length_nil] at *; omega) ?_)
        | (refine Need.mk (by simp only [List.length_cons, List.length_nil, List.length_map]; omega) ?_)
        | (refine LoopW.to jh rfl rfl))
      ·have hj' : j = c.ky.length := by omega
       subst hj'
       generalize pgK c c.ky.length = W at *
       repeat' ((conv => whnf); first
       | refine Yz ?_
        | (refine LoopW.step (body := b_priority_Print_2) g.lim ?_)
        | (refine In.enter (f := n_priority_Print_1) g.lim rfl rfl ?_)
        | (refine CallI.of (hjn rfl (if_pos ⟨rfl, rfl⟩)) ?_)
        | (refine Need.mk (by simp only [maxStr, List.length_cons, List.length_nil]; omega) ?_)
        | (refine Need.mk (by simp [Evl.bytesD] <;> omega) ?_)
        | (refine In.enter (f := n_strings_Builder_WriteString) g.lim rfl rfl ?_)
        | (refine In.extern g.lim (x := copyX ty_strings_Builder) rfl rfl ?_)
        | (refine Some'.mk ⟨_, rfl, ?_⟩)
        | (refine LoopW.to ih rfl ?_))
       simp only [List.length_append, List.length_cons, List.length_nil]
       rfl
     ·have hK0 : wsK c c.ky.length = wsT c c.wh.length := by
       rw [show c.ky.length = 0 by omega, wsK_zero]
      rw [hK0] at hjn
      generalize wsT c c.wh.length = W at *
      repeat' ((conv => whnf); first
      | refine Yz ?_
       | (refine LoopW.step (body := b_priority_Print_2) g.lim ?_)
       | (refine In.enter (f := n_priority_Print_1) g.lim rfl rfl ?_)
       | (refine CallI.of (hjn rfl (if_pos ⟨rfl, rfl⟩)) ?_)
       | (refine Need.mk (by simp only [maxStr, List.length_cons, List.length_nil]; omega) ?_)
       | (refine Need.mk (by simp [Evl.bytesD] <;> omega) ?_)
       | (refine In.enter (f := n_strings_Builder_WriteString) g.lim rfl rfl ?_)
       | (refine In.extern g.lim (x := copyX ty_strings_Builder) rfl rfl ?_)
       | (refine Some'.mk ⟨_, rfl, ?_⟩)
       | (refine LoopW.to ih rfl ?_))
      simp only [List.length_append, List.length_cons, List.length_nil]
      rfl
   ·have hT : wsT c c.wh.length = [[99, 108, 97, 115, 115], c.nm] := by
     rw [show c.wh.length = 0 by omega]
     rfl
    by_cases hk : 0 < c.ky.length
    ·have e0 : pgK c 0 = [[99, 108, 97, 115, 115], c.nm, byL] := by
      rw [pgK_zero hk, hT]
      rfl
     rw [← pgK_end] at hjn
     repeat' ((conv => whnf); first
     | refine Yz ?_
      | (refine PickW.rec Cls.cells_length _ rfl hlt ?_; rw [hx])
      | (refine LoopW.step (body := b_priority_Print_1) g.lim ?_)
      | (refine Need.mk (by simp only [List.length_cons, List.length_nil, List.length_map]; omega) ?_))
     refine LoopW.to (LoopW.up g (fun j => [(1, .ptr ⟨0, 1, 0⟩ 0 0), (5, .ptr ⟨0, 5, 1⟩ 0 0), (6, .fn n_priority_Print_1 [] [.ptr ⟨0, 5, 1⟩ 0 0]), (9, .ref ⟨0, 29, 0⟩ 0 (pgK c j).length (pgK c j).length), (21, LC p.cl), (22, I p.cl.length), (23, I (k + 1 : Nat)), (65, LK c.ky), (66, I c.ky.length), (67, I j)])
      (fun j => [(⟨0, 1, 0⟩, .cells ty_priority_Program [LC p.cl, I p.po, I p.of, I p.fo]), (⟨0, 5, 0⟩, .row false ty_uint8 1 X.length (byD X)), (⟨0, 5, 1⟩, .cells ty_strings_Builder [.ptr ⟨0, 5, 1⟩ 0 0, .ref ⟨0, 5, 0⟩ 0 X.length X.length]), (⟨0, 8, 0⟩, .cells ty_priority_Class [S c.nm, LT c.wh, LK c.ky]), (⟨0, 29, 0⟩, .row false ty_string 1 (pgK c j).length ((pgK c j).map D.str))])
      c.ky.length (fun j hj jh => ?_) 0 (Nat.zero_le _)) (by rw [e0]; dsimp only; rfl) (by rw [e0]; dsimp only; rfl)
     have hpl := pgK_le okc hj
     by_cases hjl : j < c.ky.length
     ·replace jh := jh hjl
      rw [pgK_succ c hjl] at jh
      have htl := keyL_len (okc.ks _ (List.getElem_mem hjl))
      generalize hy : c.ky[j] = t at *
      have hd := s_sign g t
      unfold keyL at htl jh
      generalize (if t.dn = true then (45 : UInt8) else 43) = sg at *
      generalize pgK c j = W at *
      simp only [List.length_append] at htl
      simp only [List.length_append, List.length_cons, List.length_nil, List.map_append, List.map_cons, List.map_nil] at jh
      repeat' ((conv => whnf); first
      | refine Yz ?_
       | (refine PickW.rec Kyt.cells_length j rfl hjl ?_; rw [hy])
       | (apply CallI.of; assumption)
       | (refine Need.mk (by simp only [maxStr, List.length_cons, List.length_nil] at *; omega) ?_)
       | (refine Need.mk (by simp only [List.length_cons, List.length_nil, List.length_map]; omega) ?_)
       | (refine LoopW.to jh rfl rfl))
     ·have hj' : j = c.ky.length := by omega
      subst hj'
      generalize pgK c c.ky.length = W at *
      repeat' ((conv => whnf); first
      | refine Yz ?_
       | (refine LoopW.step (body := b_priority_Print_2) g.lim ?_)
       | (refine In.enter (f := n_priority_Print_1) g.lim rfl rfl ?_)
       | (refine CallI.of (hjn rfl (if_pos ⟨rfl, rfl⟩)) ?_)
       | (refine Need.mk (by simp only [maxStr, List.length_cons, List.length_nil]; omega) ?_)
       | (refine Need.mk (by simp [Evl.bytesD] <;> omega) ?_)
       | (refine In.enter (f := n_strings_Builder_WriteString) g.lim rfl rfl ?_)
       | (refine In.extern g.lim (x := copyX ty_strings_Builder) rfl rfl ?_)
       | (refine Some'.mk ⟨_, rfl, ?_⟩)
       | (refine LoopW.to ih rfl ?_))
      simp only [List.length_append, List.length_cons, List.length_nil]
      rfl
    ·have hK0 : wsK c c.ky.length = wsT c c.wh.length := by
      rw [show c.ky.length = 0 by omega, wsK_zero]
     rw [hK0, hT] at hjn
 
     repeat' ((conv => whnf); first
     | refine Yz ?_
      | (refine PickW.rec Cls.cells_length _ rfl hlt ?_; rw [hx])
      | (refine LoopW.step (body := b_priority_Print_1) g.lim ?_)
      | (refine LoopW.step (body := b_priority_Print_2) g.lim ?_)
      | (refine In.enter (f := n_priority_Print_1) g.lim rfl rfl ?_)
      | (refine CallI.of (hjn rfl (if_pos ⟨rfl, rfl⟩)) ?_)
      | (refine Need.mk (by simp only [maxStr, List.length_cons, List.length_nil]; omega) ?_)
      | (refine Need.mk (by simp [Evl.bytesD] <;> omega) ?_)
      | (refine In.enter (f := n_strings_Builder_WriteString) g.lim rfl rfl ?_)
      | (refine In.extern g.lim (x := copyX ty_strings_Builder) rfl rfl ?_)
      | (refine Some'.mk ⟨_, rfl, ?_⟩)
      | (refine LoopW.to ih rfl ?_))
     simp only [List.length_append, List.length_cons, List.length_nil]
     rfl
 ·obtain rfl : k = p.cl.length := by omega
  obtain ⟨n, hn⟩ : ∃ n, p.cl.length = n + 1 := ⟨p.cl.length - 1, by have := ok.one; omega⟩
  have o1 := ok.po
  have o2 := ok.of'
  have o3 := ok.fo
  have d1 := s_Dec g p.po (by omega)
  have d2 := s_Dec g p.fo (by omega)
  have d3 := s_Dec g p.of (by omega)
  have hjl := poolW_len p
  have hjn : Fc E n_strings_Join [.d (.list 6 [.str [112, 111, 111, 108], .str (decL p.po), .str [115, 104, 97, 114, 101], .str (decL p.fo), .str [111, 102], .str (decL p.of)]), S [32]] (S (joined 32 (poolW p))) := s_Join g (poolW p) (by simp [poolW]) (show 6 ≤ 1000000 by decide) (Nat.le_trans hjl (by decide))
  have he : prgL p = txtC p p.cl.length ++ (joined 32 (poolW p) ++ [10]) := by
   unfold prgL txtC
   rw [List.take_length]
  have hb : Evl.bytesOf (byD (txtC p p.cl.length) ++ Evl.bytesD (joined 32 (poolW p) ++ [10])) = some (prgL p) := by
   rw [bytesD_eq, ← byD_app, bytesOf_byD, he]
  generalize joined 32 (poolW p) = J at *
  generalize txtC p p.cl.length = X at *
  have hbv : bldV p.cl.length = .ptr ⟨0, 5, 1⟩ 0 0 := by rw [hn]; rfl
  rw [hbv]
  repeat' ((conv => whnf); first
  | refine Yz ?_
   | (apply CallI.of; assumption)
   | (refine In.enter (f := n_priority_Print_1) g.lim rfl rfl ?_)
   | (refine Need.mk (by simp only [maxStr, List.length_cons, List.length_nil]; omega) ?_)
   | (refine Need.mk (by simp [Evl.bytesD] <;> omega) ?_)
   | (refine In.enter (f := n_strings_Builder_WriteString) g.lim rfl rfl ?_)
   | (refine In.extern g.lim (x := copyX ty_strings_Builder) rfl rfl ?_)
   | (refine In.extern g.lim (x := stringX ty_strings_Builder ty_uint8) rfl (stringX_row rfl rfl (by simp) hb) ?_)
   | (refine Some'.mk ⟨_, rfl, ?_⟩)
   | (refine Ret.mk rfl))
end
end Go.Proofs.YthmfkkpmjcbgeaaGreatDoor.Co
/-
 Priority: the program's Parse, its parts: integers, conditions.
-/
namespace Go.Proofs.YthmfkkpmjcbgeaaGreatDoor.Co
open Go Go.Evl
set_option maxRecDepth 100000
def intV (s : List UInt8) : Int × Bool :=
 match Lib.atoiAll s with
 | .ok n => (n, decide (0 ≤ n) && decide (n ≤ 999999999) && decide (decL n = s))
 | .syntax => (0, false)
 | .range => (Lib.atoiSat s, false)
theorem atoi_dF {s : List UInt8} {n : Nat} (h0 : s ≠ []) (h : Lib.decFrom 0 s = some n) : Lib.atoi s = some (n : Int) := by
 cases s with
 | nil => exact absurd rfl h0
 | cons c r =>
  have hd : ∃ d, Lib.digitVal c = some d := by
   cases hv : Lib.digitVal c with
   | none => rw [Lib.decFrom, hv] at h; cases h
   | some d => exact ⟨d, rfl⟩
  obtain ⟨d, hd⟩ := hd
  have hc := (dv_of hd).2.2
  have e1 : (c == 45) = false := beq_eq_false_iff_ne.2 fun e => by
   have : c.toNat = 45 := by rw [e]; rfl
   omega
  have e2 : (c == 43) = false := beq_eq_false_iff_ne.2 fun e => by
   have : c.toNat = 43 := by rw [e]; rfl
   omega
  simp only [Lib.atoi, e1, e2, Lib.decNat, List.isEmpty_cons, h]
  simp
theorem intV_num (s : List UInt8) : numD s = if (intV s).2 = true then some (intV s).1.toNat else none := by
 cases hb : (intV s).2
 ·rw [if_neg (by decide)]
  cases hn : numD s with
  | none => rfl
  | some m =>
   exfalso
   have hm := numD_lt hn
   have ht := numD_text hn
   unfold numD at hn
   split at hn
   ·cases hn
   ·rename_i hc
    have hl : s.length ≤ 9 := by omega
    have h0 : s ≠ [] := fun e => hc (.inl (by rw [e]; rfl))
    have ha : Lib.atoiAll s = .ok (m : Int) := by rw [Lib.atoiAll_short s (by omega), atoi_dF h0 hn]; rfl
    unfold intV at hb
    rw [ha] at hb
    simp only [Bool.and_eq_false_iff, decide_eq_false_iff_not] at hb
    rcases hb with (hb | hb) | hb
    ·omega
    ·omega
    ·exact hb ht
 ·rw [if_pos rfl]
  unfold intV at hb ⊢
  cases hv : Lib.atoiAll s with
  | ok n =>
   rw [hv] at hb
   simp only [Bool.and_eq_true, decide_eq_true_eq] at hb
   obtain ⟨⟨h1, h2⟩, h3⟩ := hb
   have := numD_digits ⟨h1, h2⟩
   rw [h3] at this
   exact this
  | «syntax» => rw [hv] at hb; cases hb
  | range => rw [hv] at hb; cases hb
theorem intV_ge {s : List UInt8} (h : (intV s).2 = true) : 0 ≤ (intV s).1 := by
 unfold intV at h ⊢
 cases hv : Lib.atoiAll s with
 | ok n =>
  rw [hv] at h
  simp only [Bool.and_eq_true, decide_eq_true_eq] at h
  exact h.1.1
 | «syntax» => rw [hv] at h; cases h
 | range => rw [hv] at h; cases h
theorem cut_index : ∀ w : List UInt8, match cutO w with
  | none => Lib.indexAny w [61, 60, 62] = -1
  | some (a, c, r) => Lib.indexAny w [61, 60, 62] = (a.length : Int) ∧ w = a ++ c :: r
 | [] => rfl
 | x :: q => by
  have ih := cut_index q
  unfold cutO Lib.indexAny
  by_cases h : x = 61 ∨ x = 60 ∨ x = 62
  ·have hc : ([61, 60, 62] : List UInt8).contains x = true := by
    rcases h with rfl | rfl | rfl <;> decide
   rw [if_pos h, if_pos hc]
   exact ⟨rfl, rfl⟩
  ·have hc : ¬ ([61, 60, 62] : List UInt8).contains x = true := by
    simp only [List.contains_cons, List.contains_nil, Bool.or_false, Bool.or_eq_true, beq_iff_eq]
    exact h
   rw [if_neg h, if_neg hc]
   cases hq : cutO q with
   | none =>
    rw [hq] at ih
    dsimp only [Option.map_none] at ih ⊢
    rw [ih]
    rfl
   | some p =>
    obtain ⟨a, c, r⟩ := p
    rw [hq] at ih
    dsimp only [Option.map_some] at ih ⊢
    obtain ⟨i1, i2⟩ := ih
    rw [i1, if_neg (by simp only [beq_iff_eq]; omega)]
    exact ⟨by rw [List.length_cons]; omega, by rw [i2]; rfl⟩
def ptV (w : List UInt8) : Tst × Bool :=
 match cutO w with
 | none => (⟨[], [], 0⟩, false)
 | some (a, c, r) => (⟨a, [c], (intV r).1⟩, (intV r).2)
theorem ptV_eq (w : List UInt8) : rdTest w = if (ptV w).2 = true then some (ptV w).1 else none := by
 unfold rdTest ptV
 cases cutO w with
 | none => rfl
 | some p =>
  obtain ⟨a, c, r⟩ := p
  simp only
  have h := intV_num r
  cases hb : (intV r).2
  ·rw [hb, if_neg (by decide)] at h
   rw [h]
   rfl
  ·rw [hb, if_pos rfl] at h
   have hg := intV_ge hb
   rw [h]
   simp only [Option.map_some, if_true]
   rw [Int.toNat_of_nonneg hg]
section
variable {E : Oracle} (g : Good E)
include g
theorem s_integer (s : List UInt8) (hs : s.length ≤ 1000000) : Fc E n_priority_integer [S s] (.tup [I (intV s).1, B (intV s).2]) := by
 refine g.fn rfl rfl ?_
 unfold intV
 cases hv : Lib.atoiAll s with
 | ok n =>
  have hx : atoiX [S s] [] = some (.tup [I n, .d .nili], []) := by simp only [atoiX, hv]; rw [if_pos hs]
  dsimp only
  by_cases h1 : 0 ≤ n
  ·by_cases h2 : n ≤ 999999999
   ·have hd := s_Dec g n ⟨h1, h2⟩
    rw [decide_eq_true h1, decide_eq_true h2]
    by_cases h3 : decL n = s
    ·rw [decide_eq_true h3]
     repeat' ((conv => whnf); first
     | refine Yz ?_
      | (refine CallS.ext g rfl hx rfl ?_)
      | (apply CallI.of; assumption)
      | (refine Cmp.tt h3 ?_)
      | (exact Ret.mk rfl)
      | fail)
    ·rw [decide_eq_false h3]
     repeat' ((conv => whnf); first
     | refine Yz ?_
      | (refine CallS.ext g rfl hx rfl ?_)
      | (apply CallI.of; assumption)
      | (refine Cmp.ff h3 ?_)
      | (exact Ret.mk rfl)
      | fail)
   ·rw [decide_eq_true h1, decide_eq_false h2]
    repeat' ((conv => whnf); first
    | refine Yz ?_
     | (refine CallS.ext g rfl hx rfl ?_)
     | (exact Ret.mk rfl)
     | fail)
  ·rw [decide_eq_false h1]
   repeat' ((conv => whnf); first
   | refine Yz ?_
    | (refine CallS.ext g rfl hx rfl ?_)
    | (exact Ret.mk rfl)
    | fail)
 | «syntax» =>
  have hx : atoiX [S s] [] = some (.tup [I 0, .d (.ifc true)], []) := by simp only [atoiX, hv]; rw [if_pos hs]
  dsimp only
  repeat' ((conv => whnf); first
  | refine Yz ?_
   | (refine CallS.ext g rfl hx rfl ?_)
   | (exact Ret.mk rfl)
   | fail)
 | range =>
  have hx : atoiX [S s] [] = some (.tup [I (Lib.atoiSat s), .d (.ifc true)], []) := by simp only [atoiX, hv]; rw [if_pos hs]
  dsimp only
  repeat' ((conv => whnf); first
  | refine Yz ?_
   | (refine CallS.ext g rfl hx rfl ?_)
   | (exact Ret.mk rfl)
   | fail)
theorem s_IndexAny (w : List UInt8) (hw : w.length ≤ 1000000) : Fc E n_strings_IndexAny [S w, S [61, 60, 62]] (I (Lib.indexAny w [61, 60, 62])) :=
 Fc.extern g.lim (x := indexAnyX) rfl (v := I (Lib.indexAny w [61, 60, 62])) (m' := []) (by simp [indexAnyX, hw]) rfl
set_option maxHeartbeats 4000000 in
theorem s_test (w : List UInt8) (hw : w.length ≤ 1000000) : Fc E n_priority_test [S w] (.tup [Tsv (ptV w).1, B (ptV w).2]) := by
 have h1 := s_IndexAny g w hw
 have hc := cut_index w
 refine g.fn rfl rfl ?_
 unfold ptV
 cases hq : cutO w with
 | none =>
  rw [hq] at hc
  dsimp only at hc ⊢
  rw [hc] at h1
  repeat' ((conv => whnf); first
  | refine Yz ?_
   | (apply CallI.of; assumption)
   | (exact Ret.mk rfl)
   | fail)
 | some p =>
  obtain ⟨a, c, r⟩ := p
  rw [hq] at hc
  dsimp only at hc ⊢
  obtain ⟨i1, i2⟩ := hc
  rw [i1] at h1
  have hl : w.length = a.length + 1 + r.length := by rw [i2]; simp; omega
  have h2 := s_integer g r (by omega)
  have e1 : win w 0 (a.length - 0) = a := by rw [i2]; simp [win]
  have e2 : win w a.length (a.length + 1 - a.length) = [c] := by rw [i2, Nat.add_sub_cancel_left]; simp [win]
  have e3 : win w (a.length + 1) (w.length - (a.length + 1)) = r := by
   unfold win
   rw [List.take_of_length_le (by rw [List.length_drop]; exact Nat.le_refl _), i2]
   simp
  generalize intV r = v at *
  obtain ⟨n, b⟩ := v
  dsimp only at h2 ⊢
  clear hq i1 i2
  repeat' ((conv => whnf); first
  | refine Yz ?_
   | (refine Bounds.at (a.length + 1) w.length (by omega) (by omega) (by omega) ?_ <;> (try dsimp only) <;> (rw [e3]))
   | (refine Bounds.at 0 a.length (by omega) (by omega) (by omega) ?_ <;> (try dsimp only) <;> (rw [e1]))
   | (refine Bounds.at a.length (a.length + 1) (by omega) (by omega) (by omega) ?_ <;> (try dsimp only) <;> (rw [e2]))
   | (apply CallI.of; assumption)
   | (exact Ret.mk rfl)
   | fail)
end
end Go.Proofs.YthmfkkpmjcbgeaaGreatDoor.Co
/-
 Priority: the program's Parse, its parts: keys.
-/
namespace Go.Proofs.YthmfkkpmjcbgeaaGreatDoor.Co
open Go Go.Evl
set_option maxRecDepth 100000
theorem NextW.hi' {s : List UInt8} {k : Nat} {a : Int → Nat → Prop} {b : Prop} (h : k < s.length) (ha : 128 ≤ (s.getD k 0).toNat) (hk : ∀ (c : Int) (w : Nat), 128 ≤ c → 1 ≤ w → k + w ≤ s.length → (∀ j, k ≤ j → j < k + w → 128 ≤ (s.getD j 0).toNat) → a c w) : NextW s k a b := by
 refine ⟨fun _ => ?_, fun hn => absurd h hn⟩
 have hsz : (⟨s.toArray⟩ : ByteArray).size = s.length := by simp [ByteArray.size]
 have hat : ∀ j (hj : j < s.length), (⟨s.toArray⟩ : ByteArray).data.toList[j]? = some (s.getD j 0) := fun j hj => by simp [List.getD, hj]
 have hd := dec_high ⟨s.toArray⟩ k (by rw [hsz]; exact h) (by rw [bget_at (hat k h)]; exact ha)
 refine hk _ _ (by have := hd.lo; omega) hd.k1 (by have := hd.kn; omega) fun j h1 h2 => hd.by_ j _ h1 h2 (hat j (by have := hd.kn; omega))
def pkV (w : List UInt8) : Kyt × Bool := if (rkV w).2 = true then rkV w else (⟨[], false⟩, false)
theorem pkV_eq {w : List UInt8} (h : w ≠ []) : rdKey w = if (pkV w).2 = true then some (pkV w).1 else none := by
 rw [rkV_eq h]
 unfold pkV
 by_cases hb : (rkV w).2 = true
 ·rw [if_pos hb, if_pos hb, if_pos hb]
 ·rw [if_neg hb, if_neg hb]
  rfl
def LstR (w : List UInt8) (s : Nat × Int) : Prop := s.1 ≤ w.length ∧ ((s.1 = 0 ∧ s.2 = 0) ∨ (0 < s.1 ∧ (((w.getD (s.1 - 1) 0).toNat < 128 ∧ s.2 = (w.getD (s.1 - 1) 0).toNat) ∨ (128 ≤ (w.getD (s.1 - 1) 0).toNat ∧ 128 ≤ s.2))))
section
variable {E : Oracle} (g : Good E)
include g
set_option maxHeartbeats 4000000 in
theorem s_key (w : List UInt8) (h0 : w ≠ []) (hw : w.length ≤ 1000000) : Fc E n_priority_key [S w] (.tup [Kyv (pkV w).1, B (pkV w).2]) := by
 have hl : 0 < w.length := List.length_pos_iff.2 h0
 refine g.fn rfl rfl ?_
 repeat' ((conv => whnf); first
 | refine Yz ?_
  | fail)
 refine LoopW.to (LoopW.by g (LstR w) (fun s => [(0, S w), (2, .ptr ⟨0, 2, 0⟩ 0 0), (4, .d (.int .i32 s.2)), (8, .it ⟨0, 8, 0⟩)]) (fun s => [(⟨0, 2, 0⟩, .cells ty_priority_Key [S [], B false]), (⟨0, 8, 0⟩, .iter w s.1)]) (fun s => w.length - s.1) (fun s hs ih => ?_) (0, 0) ⟨Nat.zero_le _, .inl ⟨rfl, rfl⟩⟩) rfl rfl
 obtain ⟨p, last⟩ := s
 obtain ⟨hp, hs⟩ := hs
 dsimp only at hp hs ih ⊢
 by_cases hlt : p < w.length
 ·by_cases ha : (w.getD p 0).toNat < 128
  ·have ih := ih (p + 1, ((w.getD p 0).toNat : Int)) ⟨by dsimp only; omega, .inr ⟨by dsimp only; omega, .inl ⟨ha, rfl⟩⟩⟩ (by dsimp only; omega)
   repeat' ((conv => whnf); first
   | refine Yz ?_
    | (refine NextW.asc hlt ha ?_)
    | (refine LoopW.to ih rfl rfl)
    | fail)
  ·have ih := fun (c : Int) (k : Nat) (h1 : 128 ≤ c) (h2 : 1 ≤ k) (h3 : p + k ≤ w.length) (h4 : ∀ j, p ≤ j → j < p + k → 128 ≤ (w.getD j 0).toNat) => ih (p + k, c) ⟨h3, .inr ⟨by dsimp only; omega, .inr ⟨h4 _ (by dsimp only; omega) (by dsimp only; omega), h1⟩⟩⟩ (by dsimp only; omega)
   repeat' ((conv => whnf); first
   | refine Yz ?_
    | (refine NextW.hi' hlt (by omega) (fun c k h1 h2 h3 h4 => ?_))
    | (refine LoopW.to (ih c k h1 h2 h3 h4) rfl rfl)
    | fail)
 ·obtain rfl : p = w.length := by omega
  clear ih
  have hs : ((w.getD (w.length - 1) 0).toNat < 128 ∧ last = (w.getD (w.length - 1) 0).toNat) ∨ (128 ≤ (w.getD (w.length - 1) 0).toNat ∧ 128 ≤ last) := by omega
  have e1 : win w 0 (w.length - 1 - 0) = w.dropLast := by
   unfold win
   rw [List.drop_zero, Nat.sub_zero, List.dropLast_eq_take]
  have hv : (last = 43 ∧ pkV w = (⟨w.dropLast, false⟩, true)) ∨ (last = 45 ∧ pkV w = (⟨w.dropLast, true⟩, true)) ∨ (last ≠ 43 ∧ last ≠ 45 ∧ pkV w = (⟨[], false⟩, false)) := by
   unfold pkV rkV
   generalize (w.getD (w.length - 1) 0).toNat = b at *
   by_cases c1 : b = 43
   ·subst c1; exact .inl ⟨by omega, by simp⟩
   ·by_cases c2 : b = 45
    ·subst c2; exact .inr (.inl ⟨by omega, by simp⟩)
    ·exact .inr (.inr ⟨by omega, by omega, by simp [c1, c2]⟩)
  clear hs
  rcases hv with ⟨rfl, hv⟩ | ⟨rfl, hv⟩ | ⟨n1, n2, hv⟩
  all_goals rw [hv]
  all_goals (repeat' ((conv => whnf); first
  | refine Yz ?_
   | (refine NextW.end' (Nat.le_refl _) ?_)
   | (refine Bounds.at 0 (w.length - 1) (by omega) (by omega) (by omega) ?_ <;> (try dsimp only) <;> (rw [e1]))
   | (exact Ret.mk rfl)
   | fail))
end
end Go.Proofs.YthmfkkpmjcbgeaaGreatDoor.Co
/-
 Priority: the reference's reading of a class.
-/
namespace Go.Proofs.YthmfkkpmjcbgeaaGreatDoor.Co
open Go Go.Evl
structure OkWs (ws : List (List UInt8)) : Prop where
 ne : ∀ w ∈ ws, w ≠ []
 len : ∀ w ∈ ws, w.length ≤ 1000000
 few : ws.length ≤ 1000001
theorem OkWs.at {ws : List (List UInt8)} (h : OkWs ws) {k : Nat} (hk : k < ws.length) : ws[k] ≠ [] ∧ ws[k].length ≤ 1000000 := ⟨h.ne _ (List.getElem_mem hk), h.len _ (List.getElem_mem hk)⟩
end Go.Proofs.YthmfkkpmjcbgeaaGreatDoor.Co
/-
 Priority: Parse, by the reference.
-/
namespace Go.Proofs.YthmfkkpmjcbgeaaGreatDoor.Co
open Go Go.Evl
theorem chkPg_small {c : Cls} {ws : List (List UInt8)} (h : rdClass ws = some c) (hl : ws.length ≤ 1000000) : SmallC c := by
 have e := congrArg List.length (rdClass_text h)
 rw [wsK_full] at e
 simp only [List.length_cons, List.length_append] at e
 constructor
 ·by_cases hw : c.wh.length = 0
  ·omega
  ·rw [if_neg hw] at e
   simp only [List.length_cons, List.length_map] at e
   omega
 ·by_cases hw : c.ky.length = 0
  ·omega
  ·rw [if_neg hw] at e
   simp only [List.length_cons, List.length_map] at e
   omega
theorem parts_mem_len (b : UInt8) : ∀ (s : List UInt8), ∀ w ∈ parts b s, w.length ≤ s.length
 | [], w, h => by
  simp only [parts, List.mem_singleton] at h
  subst h; simp
 | x :: r, w, h => by
  have ih := parts_mem_len b r
  rw [parts] at h
  split at h
  ·rcases List.mem_cons.1 h with rfl | h
   ·simp
   ·have := ih w h; rw [List.length_cons]; omega
  ·split at h
   ·rename_i hp; exact absurd hp (parts_ne b r)
   ·rename_i p q hp
    rw [hp] at ih
    rcases List.mem_cons.1 h with rfl | h
    ·have := ih p (List.mem_cons_self ..); simp only [List.length_cons]; omega
    ·have := ih w (List.mem_cons_of_mem _ h); rw [List.length_cons]; omega
theorem pcs_mem_ne : ∀ (s : List UInt8), ∀ p ∈ pcs s, p ≠ []
 | [], p, h => by simp [pcs] at h
 | c :: r, p, h => by
  have ih := pcs_mem_ne r
  rw [pcs] at h
  split at h
  ·rcases List.mem_cons.1 h with rfl | h
   ·simp
   ·exact ih p h
  ·split at h
   ·simp only [List.mem_singleton] at h; subst h; simp
   ·rename_i q qs hq
    rw [hq] at ih
    rcases List.mem_cons.1 h with rfl | h
    ·simp
    ·exact ih p (List.mem_cons_of_mem _ h)
end Go.Proofs.YthmfkkpmjcbgeaaGreatDoor.Co
/-
 Priority: the program's Parse, its reader: the next word; conditions and keys up to a word.
-/
namespace Go.Proofs.YthmfkkpmjcbgeaaGreatDoor.Co
open Go Go.Evl
set_option maxRecDepth 100000
theorem settle_low {cx : Cx} {slot lo : Nat} {old m : Mem} {o : Evl.Id} {v : V} (hi : Go.Evl.ids v = [o]) (hr : Go.Evl.ren [] v = v) (h : o.lv < lo) : Go.Evl.settle cx slot lo old m v = some (v, old) := by
 have hn : ¬ lo ≤ o.lv := by omega
 have hr' : Go.Evl.reach lo m 64 (Go.Evl.ids v) [] = [] := by
  rw [hi]
  simp [Go.Evl.reach, hn]
 unfold Go.Evl.settle
 simp only [hr']
 rw [if_pos (by rw [hi]; simp [Go.Evl.within, Go.Evl.movable, Go.Evl.onceB, h])]
 simp [Go.Evl.number, hr, Go.Evl.moved]
theorem settle_rowP {cx : Cx} {slot lo : Nat} {old m : Mem} {o : Evl.Id} {v v' : V} {wr : Bool} {t sz n : Nat} {xs : List D} (hi : Go.Evl.ids v = [o]) (hlo : lo ≤ o.lv) (hl : Evl.look m o = some (.row wr t sz n xs)) (hr : Go.Evl.ren [(o, ⟨cx.lv, slot, Go.Evl.freeK cx.lv slot old⟩)] v = v') :
  Go.Evl.settle cx slot lo old m v = some (v', old ++ [(⟨cx.lv, slot, Go.Evl.freeK cx.lv slot old⟩, .row wr t sz n xs)]) := by
 have hr' : Go.Evl.reach lo m 64 (Go.Evl.ids v) [] = [o] := by
  rw [hi]
  simp [Go.Evl.reach, hlo, hl, Go.Evl.idsO]
 unfold Go.Evl.settle
 simp only [hr']
 rw [if_pos (by rw [hi]; simp [Go.Evl.within, Go.Evl.movable, Go.Evl.onceB, hl, hlo, Go.Evl.idsO, Go.Evl.isLoop])]
 simp [Go.Evl.number, hr, Go.Evl.moved, hl, Go.Evl.renO]
theorem Some'.low {cx : Cx} {slot lo : Nat} {old m : Mem} {o : Evl.Id} {v : V} {K : V × Mem → Prop} (hi : Go.Evl.ids v = [o]) (hr : Go.Evl.ren [] v = v) (h : o.lv < lo) (k : K (v, old)) : Some' (Go.Evl.settle cx slot lo old m v) K := ⟨_, settle_low hi hr h, k⟩
theorem Some'.nrow {cx : Cx} {slot lo : Nat} {old m : Mem} {o : Evl.Id} {v v' : V} {wr : Bool} {t sz n : Nat} {xs : List D} {K : V × Mem → Prop} (c : Nat) (hi : Go.Evl.ids v = [o]) (hlo : lo ≤ o.lv) (hl : Evl.look m o = some (.row wr t sz n xs)) (hf : Go.Evl.freeK cx.lv slot old = c) (hr : Go.Evl.ren [(o, ⟨cx.lv, slot, c⟩)] v = v')
  (k : K (v', old ++ [(⟨cx.lv, slot, c⟩, .row wr t sz n xs)])) : Some' (Go.Evl.settle cx slot lo old m v) K := ⟨_, settle_rowP (v' := v') hi hlo hl (by rw [hf]; exact hr), by rw [hf]; exact k⟩
theorem ws_tail (w : List UInt8) (r : List (List UInt8)) : win ((w :: r).map D.str) (1 * 1) (((w :: r).length - 1) * 1) = r.map D.str := by
 unfold win
 rw [List.map_cons, Nat.mul_one, List.drop_one, List.tail_cons, List.take_of_length_le (by simp)]
section
variable {E : Oracle} (g : Good E)
include g
set_option maxHeartbeats 4000000 in
theorem in_next0 {lv t : Nat} {m : Mem} (h : Evl.look m ⟨1, 24, 0⟩ = some (.cells t [LS []])) {K : V → Mem → Prop} (hK : K (S []) m) : In E lv n_priority_reader_next [.ptr ⟨1, 24, 0⟩ 0 0] m K := by
 refine In.enter (f := n_priority_reader_next) g.lim rfl rfl ?_
 repeat' ((conv => whnf); first
 | refine Yz ?_
  | (rw [lookK_eq, h])
  | (exact hK))
set_option maxHeartbeats 4000000 in
theorem in_next1 {lv t : Nat} {m : Mem} (w : List UInt8) (r : List (List UInt8)) (hr : r.length ≤ 1000000) (h : Evl.look m ⟨1, 24, 0⟩ = some (.cells t [LS (w :: r)])) {K : V → Mem → Prop} (hK : K (S w) (Evl.upd m ⟨1, 24, 0⟩ (.cells t [LS r]))) : In E lv n_priority_reader_next [.ptr ⟨1, 24, 0⟩ 0 0] m K := by
 refine In.enter (f := n_priority_reader_next) g.lim rfl rfl ?_
 repeat' ((conv => whnf); first
 | refine Yz ?_
  | (rw [lookK_eq, h])
  | (rw [updK_eq])
  | (refine Cmp.ff (by simp only [List.length_cons]; omega) ?_)
  | (refine Need.mk (by simp only [List.length_cons]; omega) ?_)
  | (refine Bounds.at 1 (w :: r).length rfl rfl (by simp) ?_ <;> (try dsimp only) <;> (rw [ws_tail]))
  | (exact hK))
end
end Go.Proofs.YthmfkkpmjcbgeaaGreatDoor.Co
/-
 Priority: the program's Parse, its reader: conditions up to a word, keys, each by a function.
-/
namespace Go.Proofs.YthmfkkpmjcbgeaaGreatDoor.Co
open Go Go.Evl
set_option maxRecDepth 100000
abbrev paM (cl : List Cls) (ws : List (List UInt8)) (nm : List UInt8) (a b : D) : Mem := [(⟨0, 2, 0⟩, .row true ty_priority_Class 3 0 []), (⟨0, 2, 1⟩, .cells ty_priority_Program [.ref ⟨0, 2, 0⟩ 0 0 0, I 0, I 0, I 0]), (⟨0, 6, 0⟩, .row true ty_priority_Class 3 cl.length (cl.flatMap Cls.cells)), (⟨0, 6, 1⟩, .cells ty_priority_Program [.ref ⟨0, 6, 0⟩ 0 cl.length cl.length, I 0, I 0, I 0]), (⟨1, 2, 0⟩, .cells ty_priority_Program [.ref ⟨0, 6, 0⟩ 0 cl.length cl.length, I 0, I 0, I 0]), (⟨1, 4, 0⟩, .row true ty_priority_Class 3 0 []), (⟨1, 4, 1⟩, .cells ty_priority_Program [.ref ⟨1, 4, 0⟩ 0 0 0, I 0, I 0, I 0]), (⟨1, 24, 0⟩, .cells ty_priority_reader [LS ws]), (⟨2, 2, 0⟩, .cells ty_priority_Class [S [], .d (.list 0 []), .d (.list 0 [])]), (⟨2, 5, 0⟩, .cells ty_priority_Class [S nm, .d a, .d b])]
abbrev paT (cl : List Cls) (ws : List (List UInt8)) (nm : List UInt8) (a b : D) (l : List Tst) : Mem := [(⟨0, 2, 0⟩, .row true ty_priority_Class 3 0 []), (⟨0, 2, 1⟩, .cells ty_priority_Program [.ref ⟨0, 2, 0⟩ 0 0 0, I 0, I 0, I 0]), (⟨0, 6, 0⟩, .row true ty_priority_Class 3 cl.length (cl.flatMap Cls.cells)), (⟨0, 6, 1⟩, .cells ty_priority_Program [.ref ⟨0, 6, 0⟩ 0 cl.length cl.length, I 0, I 0, I 0]), (⟨1, 2, 0⟩, .cells ty_priority_Program [.ref ⟨0, 6, 0⟩ 0 cl.length cl.length, I 0, I 0, I 0]), (⟨1, 4, 0⟩, .row true ty_priority_Class 3 0 []), (⟨1, 4, 1⟩, .cells ty_priority_Program [.ref ⟨1, 4, 0⟩ 0 0 0, I 0, I 0, I 0]), (⟨1, 24, 0⟩, .cells ty_priority_reader [LS ws]), (⟨2, 2, 0⟩, .cells ty_priority_Class [S [], .d (.list 0 []), .d (.list 0 [])]), (⟨2, 5, 0⟩, .cells ty_priority_Class [S nm, .d a, .d b]), (⟨3, 6, 0⟩, .row false ty_priority_Test 3 0 []), (⟨3, 8, 0⟩, .row false ty_priority_Test 3 l.length (l.flatMap Tst.cells))]
abbrev paK (cl : List Cls) (ws : List (List UInt8)) (nm : List UInt8) (a b : D) (l : List Kyt) : Mem := [(⟨0, 2, 0⟩, .row true ty_priority_Class 3 0 []), (⟨0, 2, 1⟩, .cells ty_priority_Program [.ref ⟨0, 2, 0⟩ 0 0 0, I 0, I 0, I 0]), (⟨0, 6, 0⟩, .row true ty_priority_Class 3 cl.length (cl.flatMap Cls.cells)), (⟨0, 6, 1⟩, .cells ty_priority_Program [.ref ⟨0, 6, 0⟩ 0 cl.length cl.length, I 0, I 0, I 0]), (⟨1, 2, 0⟩, .cells ty_priority_Program [.ref ⟨0, 6, 0⟩ 0 cl.length cl.length, I 0, I 0, I 0]), (⟨1, 4, 0⟩, .row true ty_priority_Class 3 0 []), (⟨1, 4, 1⟩, .cells ty_priority_Program [.ref ⟨1, 4, 0⟩ 0 0 0, I 0, I 0, I 0]), (⟨1, 24, 0⟩, .cells ty_priority_reader [LS ws]), (⟨2, 2, 0⟩, .cells ty_priority_Class [S [], .d (.list 0 []), .d (.list 0 [])]), (⟨2, 5, 0⟩, .cells ty_priority_Class [S nm, .d a, .d b]), (⟨3, 6, 0⟩, .row false ty_priority_Key 2 0 []), (⟨3, 8, 0⟩, .row false ty_priority_Key 2 l.length (l.flatMap Kyt.cells))]
section
variable {E : Oracle} (g : Good E)
include g
set_option maxHeartbeats 8000000 in
theorem in_allT (cl : List Cls) (ws : List (List UInt8)) (nm : List UInt8) (a b : D) (hn : ws.length ≤ 1000000) (hw : ∀ w ∈ ws, w.length ≤ 1000000) {K : V → Mem → Prop}
  (h0 : rdTests ws = none → ∀ (q : List (List UInt8)) (l : List Tst) (t : Tst), K (.tup [.ref ⟨3, 6, 1⟩ 0 0 0, B false]) (paT cl q nm a b l ++ [(⟨3, 9, 0⟩, .cells ty_priority_Test [S t.fa, S t.op, I t.va]), (⟨3, 6, 1⟩, .row false ty_priority_Test 3 0 [])]))
  (h1 : ∀ (l : List Tst) (q : List (List UInt8)), rdTests ws = some (l, q) → K (.tup [.ref ⟨3, 8, 0⟩ 0 l.length l.length, B (decide (l ≠ []))]) (paT cl q nm a b l)) :
  In E 3 n_priority_all_priority_Test [.ptr ⟨1, 24, 0⟩ 0 0, S [98, 121], .fn n_priority_test [] []] (paM cl ws nm a b) K := by
 refine In.enter (f := n_priority_all_priority_Test) g.lim rfl rfl ?_
 repeat' ((conv => whnf); first
 | refine Yz ?_
  | fail)
 refine LoopW.to (LoopW.by (σ := List Tst × List (List UInt8)) g (fun s => s.1.length + s.2.length ≤ ws.length ∧ (∀ w ∈ s.2, w.length ≤ 1000000) ∧ rdTests ws = (rdTests s.2).map fun p => (s.1 ++ p.1, p.2)) (fun s => [(0, .ptr ⟨1, 24, 0⟩ 0 0), (1, S [98, 121]), (2, .fn n_priority_test [] []), (8, .ref ⟨3, 8, 0⟩ 0 s.1.length s.1.length)]) (fun s => paT cl s.2 nm a b s.1) (fun s => s.2.length) ?_ ([], ws) ⟨by simp, hw, by cases rdTests ws <;> simp⟩) rfl rfl
 rintro ⟨l, q⟩ ⟨hlq, hwq, he⟩ ih
 dsimp only at hlq hwq he ih ⊢
 cases q with
 | nil =>
  rw [rdTests] at he
  have h1 := h1 l [] (by rw [he]; simp)
  by_cases hl : l = []
  ·subst hl
   repeat' ((conv => whnf); first
   | refine Yz ?_
    | (exact h1)
    | fail)
  ·have hl0 : 0 < l.length := List.length_pos_iff.2 hl
   rw [decide_eq_true hl] at h1
   repeat' ((conv => whnf); first
   | refine Yz ?_
    | (exact h1)
    | fail)
 | cons w r =>
  rw [List.length_cons] at hlq
  by_cases hb : w = byL
  ·rw [rdTests, if_pos hb] at he
   have h1 := h1 l (w :: r) (by rw [he]; simp)
   by_cases hl : l = []
   ·subst hl
    repeat' ((conv => whnf); first
    | refine Yz ?_
     | (refine Cmp.tt (by simp only [List.length_cons]; omega) ?_)
     | (refine Cmp.tt hb ?_)
     | (exact h1)
     | fail)
   ·have hl0 : 0 < l.length := List.length_pos_iff.2 hl
    rw [decide_eq_true hl] at h1
    repeat' ((conv => whnf); first
    | refine Yz ?_
     | (refine Cmp.tt (by simp only [List.length_cons]; omega) ?_)
     | (refine Cmp.tt hb ?_)
     | (exact h1)
     | fail)
  ·rw [rdTests, if_neg hb, ptV_eq] at he
   have ht := s_test g w (hwq w (List.mem_cons_self ..))
   generalize ptV w = t at he ht
   obtain ⟨⟨fa, op, va⟩, ok⟩ := t
   cases ok with
   | false =>
    have h0 := h0 (by rw [he]; rfl) r l ⟨fa, op, va⟩
    repeat' ((conv => whnf); first
    | refine Yz ?_
     | (refine Cmp.tt (by simp only [List.length_cons]; omega) ?_)
     | (refine Cmp.ff hb ?_)
     | (refine Need.mk (by simp only [List.length_cons]; omega) ?_)
     | (refine in_next1 g w r (by omega) rfl ?_)
     | (refine CallI.of ht ?_)
     | (exact h0)
     | fail)
   | true =>
    have ih := ih (l ++ [⟨fa, op, va⟩], r) ⟨by simp only [List.length_append, List.length_singleton]; omega, fun x hx => hwq x (List.mem_cons_of_mem _ hx), by
     rw [he]
     cases rdTests r <;> simp⟩ (by dsimp only; simp)
    dsimp only [paT] at ih
    rw [List.length_append, List.flatMap_append] at ih
    repeat' ((conv => whnf); first
    | refine Yz ?_
     | (refine Cmp.tt (by simp only [List.length_cons]; omega) ?_)
     | (refine Cmp.ff hb ?_)
     | (refine Need.mk (by simp only [List.length_cons]; omega) ?_)
     | (refine in_next1 g w r (by omega) rfl ?_)
     | (refine CallI.of ht ?_)
     | (refine Need.mk ⟨rfl, rfl, rfl, rfl, rfl, rfl, by show (l.length + 1) * 40 ≤ _; omega, by omega⟩ ?_)
     | (refine LoopW.to ih rfl rfl)
     | fail)
set_option maxHeartbeats 8000000 in
theorem in_allK (cl : List Cls) (ws : List (List UInt8)) (nm : List UInt8) (a b : D) (hn : ws.length ≤ 1000000) (hw : ∀ w ∈ ws, w ≠ [] ∧ w.length ≤ 1000000) {K : V → Mem → Prop}
  (h0 : rdKeys ws = none → ∀ (q : List (List UInt8)) (l : List Kyt) (t : Kyt), K (.tup [.ref ⟨3, 6, 1⟩ 0 0 0, B false]) (paK cl q nm a b l ++ [(⟨3, 9, 0⟩, .cells ty_priority_Key [S t.fa, B t.dn]), (⟨3, 6, 1⟩, .row false ty_priority_Key 2 0 [])]))
  (h1 : ∀ l : List Kyt, rdKeys ws = some l → K (.tup [.ref ⟨3, 8, 0⟩ 0 l.length l.length, B (decide (l ≠ []))]) (paK cl [] nm a b l)) :
  In E 3 n_priority_all_priority_Key [.ptr ⟨1, 24, 0⟩ 0 0, S [], .fn n_priority_key [] []] (paM cl ws nm a b) K := by
 refine In.enter (f := n_priority_all_priority_Key) g.lim rfl rfl ?_
 repeat' ((conv => whnf); first
 | refine Yz ?_
  | fail)
 refine LoopW.to (LoopW.by (σ := List Kyt × List (List UInt8)) g (fun s => s.1.length + s.2.length ≤ ws.length ∧ (∀ w ∈ s.2, w ≠ [] ∧ w.length ≤ 1000000) ∧ rdKeys ws = (rdKeys s.2).map fun p => s.1 ++ p) (fun s => [(0, .ptr ⟨1, 24, 0⟩ 0 0), (1, S []), (2, .fn n_priority_key [] []), (8, .ref ⟨3, 8, 0⟩ 0 s.1.length s.1.length)]) (fun s => paK cl s.2 nm a b s.1) (fun s => s.2.length) ?_ ([], ws) ⟨by simp, hw, by cases rdKeys ws <;> simp⟩) rfl rfl
 rintro ⟨l, q⟩ ⟨hlq, hwq, he⟩ ih
 dsimp only at hlq hwq he ih ⊢
 cases q with
 | nil =>
  rw [rdKeys] at he
  have h1 := h1 l (by rw [he]; simp)
  by_cases hl : l = []
  ·subst hl
   repeat' ((conv => whnf); first
   | refine Yz ?_
    | (exact h1)
    | fail)
  ·have hl0 : 0 < l.length := List.length_pos_iff.2 hl
   rw [decide_eq_true hl] at h1
   repeat' ((conv => whnf); first
   | refine Yz ?_
    | (exact h1)
    | fail)
 | cons w r =>
  rw [List.length_cons] at hlq
  obtain ⟨hne, hwl⟩ := hwq w (List.mem_cons_self ..)
  rw [rdKeys, pkV_eq hne] at he
  have ht := s_key g w hne hwl
  generalize pkV w = t at he ht
  obtain ⟨⟨fa, dn⟩, ok⟩ := t
  cases ok with
  | false =>
   have h0 := h0 (by rw [he]; rfl) r l ⟨fa, dn⟩
   repeat' ((conv => whnf); first
   | refine Yz ?_
    | (refine Cmp.tt (by simp only [List.length_cons]; omega) ?_)
    | (refine Cmp.ff hne ?_)
    | (refine Need.mk (by simp only [List.length_cons]; omega) ?_)
    | (refine in_next1 g w r (by omega) rfl ?_)
    | (refine CallI.of ht ?_)
    | (exact h0)
    | fail)
  | true =>
   have ih := ih (l ++ [⟨fa, dn⟩], r) ⟨by simp only [List.length_append, List.length_singleton]; omega, fun x hx => hwq x (List.mem_cons_of_mem _ hx), by
    rw [he]
    cases rdKeys r <;> simp⟩ (by dsimp only; simp)
   dsimp only [paK] at ih
   rw [List.length_append, List.flatMap_append] at ih
   repeat' ((conv => whnf); first
   | refine Yz ?_
    | (refine Cmp.tt (by simp only [List.length_cons]; omega) ?_)
    | (refine Cmp.ff hne ?_)
    | (refine Need.mk (by simp only [List.length_cons]; omega) ?_)
    | (refine in_next1 g w r (by omega) rfl ?_)
    | (refine CallI.of ht ?_)
    | (refine Need.mk ⟨rfl, rfl, rfl, rfl, rfl, rfl, by show (l.length + 1) * 24 ≤ _; omega, by omega⟩ ?_)
    | (refine LoopW.to ih rfl rfl)
    | fail)
end
end Go.Proofs.YthmfkkpmjcbgeaaGreatDoor.Co
/-
 Priority: the program's Parse: the words of a class.
-/
namespace Go.Proofs.YthmfkkpmjcbgeaaGreatDoor.Co
open Go Go.Evl
set_option maxRecDepth 100000
abbrev plM (cl : List Cls) (ws : List (List UInt8)) : Mem := [(⟨0, 2, 0⟩, .row true ty_priority_Class 3 0 []), (⟨0, 2, 1⟩, .cells ty_priority_Program [.ref ⟨0, 2, 0⟩ 0 0 0, I 0, I 0, I 0]), (⟨0, 6, 0⟩, .row true ty_priority_Class 3 cl.length (cl.flatMap Cls.cells)), (⟨0, 6, 1⟩, .cells ty_priority_Program [.ref ⟨0, 6, 0⟩ 0 cl.length cl.length, I 0, I 0, I 0]), (⟨1, 2, 0⟩, .cells ty_priority_Program [.ref ⟨0, 6, 0⟩ 0 cl.length cl.length, I 0, I 0, I 0]), (⟨1, 4, 0⟩, .row true ty_priority_Class 3 0 []), (⟨1, 4, 1⟩, .cells ty_priority_Program [.ref ⟨1, 4, 0⟩ 0 0 0, I 0, I 0, I 0]), (⟨1, 24, 0⟩, .cells ty_priority_reader [LS ws])]
abbrev plC (cl : List Cls) (ws : List (List UInt8)) (x y : Cls) : Mem := [(⟨0, 2, 0⟩, .row true ty_priority_Class 3 0 []), (⟨0, 2, 1⟩, .cells ty_priority_Program [.ref ⟨0, 2, 0⟩ 0 0 0, I 0, I 0, I 0]), (⟨0, 6, 0⟩, .row true ty_priority_Class 3 cl.length (cl.flatMap Cls.cells)), (⟨0, 6, 1⟩, .cells ty_priority_Program [.ref ⟨0, 6, 0⟩ 0 cl.length cl.length, I 0, I 0, I 0]), (⟨1, 2, 0⟩, .cells ty_priority_Program [.ref ⟨0, 6, 0⟩ 0 cl.length cl.length, I 0, I 0, I 0]), (⟨1, 4, 0⟩, .row true ty_priority_Class 3 0 []), (⟨1, 4, 1⟩, .cells ty_priority_Program [.ref ⟨1, 4, 0⟩ 0 0 0, I 0, I 0, I 0]), (⟨1, 24, 0⟩, .cells ty_priority_reader [LS ws]), (⟨2, 2, 0⟩, .cells ty_priority_Class [S x.nm, LT x.wh, LK x.ky]), (⟨2, 5, 0⟩, .cells ty_priority_Class [S y.nm, LT y.wh, LK y.ky])]
section
variable {E : Oracle} (g : Good E)
include g
set_option maxHeartbeats 16000000 in
theorem in_class (cl : List Cls) (ws : List (List UInt8)) (hn : ws.length ≤ 1000000) (hw : ∀ w ∈ ws, w ≠ [] ∧ w.length ≤ 1000000) {K : V → Mem → Prop}
  (hN : rdClass ws = none → ∀ (q : List (List UInt8)) (x y : Cls), K (.tup [Csv x, B false]) (plC cl q x y))
  (hS : ∀ c : Cls, rdClass ws = some c → ∀ (q : List (List UInt8)) (y : Cls), K (.tup [Csv c, B true]) (plC cl q c y)) :
  In E 2 n_priority_reader_class [.ptr ⟨1, 24, 0⟩ 0 0] (plM cl ws) K := by
 refine In.enter (f := n_priority_reader_class) g.lim rfl rfl ?_
 cases ws with
 | nil =>
  have hN := hN rfl [] ⟨[], [], []⟩ ⟨[], [], []⟩
  repeat' ((conv => whnf); first
  | refine Yz ?_
   | (refine in_next0 g rfl ?_)
   | (refine Cmp.tt rfl ?_)
   | (exact hN)
   | fail)
 | cons nm r =>
  rw [List.length_cons] at hn
  have hne := (hw nm (List.mem_cons_self ..)).1
  have hwr := fun x hx => hw x (List.mem_cons_of_mem _ hx)
  cases r with
  | nil =>
   have hS := hS ⟨nm, [], []⟩ rfl [] ⟨nm, [], []⟩
   repeat' ((conv => whnf); first
   | refine Yz ?_
    | (refine in_next1 g nm [] (by decide) rfl ?_)
    | (refine Cmp.ff hne ?_)
    | (exact hS)
    | fail)
  | cons w q =>
   rw [List.length_cons] at hn
   have hwq := fun x hx => hwr x (List.mem_cons_of_mem _ hx)
   by_cases hwh : w = whenL
   ·subst hwh
    cases hT : rdTests q with
    | none =>
     have hN := hN (by unfold rdClass rdWhen; simp only [if_pos]; rw [hT]; rfl)
     repeat' ((conv => whnf); first
     | refine Yz ?_
      | (refine in_next1 g nm (whenL :: q) (by simp only [List.length_cons]; omega) rfl ?_)
      | (refine in_next1 g whenL q (by omega) rfl ?_)
      | (refine Cmp.ff hne ?_)
      | (refine Cmp.tt (by simp only [List.length_cons]; omega) ?_)
      | (refine Cmp.ff (by simp only [List.length_cons]; omega) ?_)
      | (refine Need.mk (by simp only [List.length_cons]; omega) ?_)
      | (refine Cmp.tt rfl ?_)
      | (refine in_allT g cl q nm _ _ (by omega) (fun x hx => (hwq x hx).2) (fun _ _ _ _ => ?_) (fun l q h => by rw [hT] at h; cases h))
      | (exact hN _ ⟨nm, [], []⟩ ⟨nm, [], []⟩)
      | (rw [if_pos ⟨rfl, rfl⟩])
      | fail)
    | some p =>
     obtain ⟨l, q2⟩ := p
     by_cases hle : l = []
     ·subst hle
      have hN := hN (by unfold rdClass rdWhen; simp only [if_pos]; rw [hT]; rfl)
      repeat' ((conv => whnf); first
      | refine Yz ?_
       | (refine in_next1 g nm (whenL :: q) (by simp only [List.length_cons]; omega) rfl ?_)
       | (refine in_next1 g whenL q (by omega) rfl ?_)
       | (refine Cmp.ff hne ?_)
       | (refine Cmp.tt (by simp only [List.length_cons]; omega) ?_)
       | (refine Cmp.ff (by simp only [List.length_cons]; omega) ?_)
       | (refine Need.mk (by simp only [List.length_cons]; omega) ?_)
       | (refine Cmp.tt rfl ?_)
       | (refine in_allT g cl q nm _ _ (by omega) (fun x hx => (hwq x hx).2) (fun h => by rw [hT] at h; cases h) (fun l q h => ?_); rw [hT] at h; cases h)
       | (exact hN _ ⟨nm, [], []⟩ ⟨nm, [], []⟩)
       | (rw [if_pos ⟨rfl, rfl⟩])
       | fail)
     ·have hld : decide (l ≠ []) = true := decide_eq_true hle
      have hq2 : q2.length ≤ q.length ∧ ∀ x ∈ q2, x ∈ q := by
       have e := (rdTests_text hT).1
       exact ⟨by rw [e, List.length_append]; omega, fun x hx => by rw [e, List.mem_append]; exact .inr hx⟩
      rcases (rdTests_text hT).2 with rfl | ⟨q3, rfl⟩
      ·have hS := hS ⟨nm, l, []⟩ (by unfold rdClass rdWhen; simp only [if_pos]; rw [hT]; simp [hle, rdBy])
       repeat' ((conv => whnf); first
       | refine Yz ?_
        | (refine in_next1 g nm (whenL :: q) (by simp only [List.length_cons]; omega) rfl ?_)
        | (refine in_next1 g whenL q (by omega) rfl ?_)
        | (refine Cmp.ff hne ?_)
        | (refine Cmp.tt (by simp only [List.length_cons]; omega) ?_)
        | (refine Cmp.ff (by simp only [List.length_cons]; omega) ?_)
        | (refine Need.mk (by simp only [List.length_cons]; omega) ?_)
        | (refine Cmp.tt rfl ?_)
        | (refine in_allT g cl q nm _ _ (by omega) (fun x hx => (hwq x hx).2) (fun h => by rw [hT] at h; cases h) (fun l q h => ?_); rw [hT] at h; cases h; rw [hld])
        | (exact hS _ ⟨nm, l, []⟩)
        | (rw [if_pos ⟨rfl, rfl⟩])
        | fail)
      ·rw [List.length_cons] at hq2
       have hw3 := fun x hx => hwq x (hq2.2 x (List.mem_cons_of_mem _ hx))
       cases hK : rdKeys q3 with
       | none =>
        have hN := hN (by unfold rdClass rdWhen; simp only [if_pos]; rw [hT]; simp only [Option.bind_some]; rw [if_neg hle]; simp only [Option.bind_some, rdBy, if_pos]; rw [hK]; rfl)
        repeat' ((conv => whnf); first
        | refine Yz ?_
         | (refine in_next1 g nm (whenL :: q) (by simp only [List.length_cons]; omega) rfl ?_)
         | (refine in_next1 g whenL q (by omega) rfl ?_)
         | (refine Cmp.ff hne ?_)
         | (refine Cmp.tt (by simp only [List.length_cons]; omega) ?_)
         | (refine Cmp.ff (by simp only [List.length_cons]; omega) ?_)
         | (refine Need.mk (by simp only [List.length_cons]; omega) ?_)
         | (refine Cmp.tt rfl ?_)
         | (refine in_next1 g byL q3 (by omega) rfl ?_)
         | (refine in_allT g cl q nm _ _ (by omega) (fun x hx => (hwq x hx).2) (fun h => by rw [hT] at h; cases h) (fun l q h => ?_); rw [hT] at h; cases h; rw [hld])
         | (refine in_allK g cl q3 nm _ _ (by omega) hw3 (fun _ _ _ _ => ?_) (fun l h => by rw [hK] at h; cases h))
         | (exact hN _ ⟨nm, l, []⟩ ⟨nm, l, []⟩)
         | (rw [if_pos ⟨rfl, rfl⟩])
         | fail)
       | some ks =>
        by_cases hke : ks = []
        ·subst hke
         have hN := hN (by unfold rdClass rdWhen; simp only [if_pos]; rw [hT]; simp only [Option.bind_some]; rw [if_neg hle]; simp only [Option.bind_some, rdBy, if_pos]; rw [hK]; rfl)
         repeat' ((conv => whnf); first
         | refine Yz ?_
          | (refine in_next1 g nm (whenL :: q) (by simp only [List.length_cons]; omega) rfl ?_)
          | (refine in_next1 g whenL q (by omega) rfl ?_)
          | (refine Cmp.ff hne ?_)
          | (refine Cmp.tt (by simp only [List.length_cons]; omega) ?_)
          | (refine Cmp.ff (by simp only [List.length_cons]; omega) ?_)
          | (refine Need.mk (by simp only [List.length_cons]; omega) ?_)
          | (refine Cmp.tt rfl ?_)
          | (refine in_next1 g byL q3 (by omega) rfl ?_)
          | (refine in_allT g cl q nm _ _ (by omega) (fun x hx => (hwq x hx).2) (fun h => by rw [hT] at h; cases h) (fun l q h => ?_); rw [hT] at h; cases h; rw [hld])
          | (refine in_allK g cl q3 nm _ _ (by omega) hw3 (fun h => by rw [hK] at h; cases h) (fun l h => ?_); rw [hK] at h; cases h)
          | (exact hN _ ⟨nm, l, []⟩ ⟨nm, l, []⟩)
          | (rw [if_pos ⟨rfl, rfl⟩])
          | fail)
        ·have hS := hS ⟨nm, l, ks⟩ (by unfold rdClass rdWhen; simp only [if_pos]; rw [hT]; simp only [Option.bind_some]; rw [if_neg hle]; simp only [Option.bind_some, rdBy, if_pos]; rw [hK]; simp [hke])
         have hkd : decide (ks ≠ []) = true := decide_eq_true hke
         repeat' ((conv => whnf); first
         | refine Yz ?_
          | (refine in_next1 g nm (whenL :: q) (by simp only [List.length_cons]; omega) rfl ?_)
          | (refine in_next1 g whenL q (by omega) rfl ?_)
          | (refine Cmp.ff hne ?_)
          | (refine Cmp.tt (by simp only [List.length_cons]; omega) ?_)
          | (refine Cmp.ff (by simp only [List.length_cons]; omega) ?_)
          | (refine Need.mk (by simp only [List.length_cons]; omega) ?_)
          | (refine Cmp.tt rfl ?_)
          | (refine in_next1 g byL q3 (by omega) rfl ?_)
          | (refine in_allT g cl q nm _ _ (by omega) (fun x hx => (hwq x hx).2) (fun h => by rw [hT] at h; cases h) (fun l q h => ?_); rw [hT] at h; cases h; rw [hld])
          | (refine in_allK g cl q3 nm _ _ (by omega) hw3 (fun h => by rw [hK] at h; cases h) (fun l h => ?_); rw [hK] at h; cases h; rw [hkd])
          | (exact hS _ ⟨nm, l, ks⟩)
          | (rw [if_pos ⟨rfl, rfl⟩])
          | fail)
   ·have eW : rdWhen (w :: q) = some ([], w :: q) := by unfold rdWhen; exact if_neg hwh
    by_cases hby : w = byL
    ·subst hby
     cases hK : rdKeys q with
     | none =>
      have hN := hN (by unfold rdClass; simp only [eW, Option.bind_some, rdBy, if_pos]; rw [hK]; rfl)
      repeat' ((conv => whnf); first
      | refine Yz ?_
       | (refine in_next1 g nm (byL :: q) (by simp only [List.length_cons]; omega) rfl ?_)
       | (refine in_next1 g byL q (by omega) rfl ?_)
       | (refine Cmp.ff hne ?_)
       | (refine Cmp.ff hwh ?_)
       | (refine Cmp.tt (by simp only [List.length_cons]; omega) ?_)
       | (refine Cmp.ff (by simp only [List.length_cons]; omega) ?_)
       | (refine Need.mk (by simp only [List.length_cons]; omega) ?_)
       | (refine Cmp.tt rfl ?_)
       | (refine in_allK g cl q nm _ _ (by omega) hwq (fun _ _ _ _ => ?_) (fun l h => by rw [hK] at h; cases h))
       | (exact hN _ ⟨nm, [], []⟩ ⟨nm, [], []⟩)
       | (rw [if_pos ⟨rfl, rfl⟩])
       | fail)
     | some ks =>
      by_cases hke : ks = []
      ·subst hke
       have hN := hN (by unfold rdClass; simp only [eW, Option.bind_some, rdBy, if_pos]; rw [hK]; rfl)
       repeat' ((conv => whnf); first
       | refine Yz ?_
        | (refine in_next1 g nm (byL :: q) (by simp only [List.length_cons]; omega) rfl ?_)
        | (refine in_next1 g byL q (by omega) rfl ?_)
        | (refine Cmp.ff hne ?_)
        | (refine Cmp.ff hwh ?_)
        | (refine Cmp.tt (by simp only [List.length_cons]; omega) ?_)
        | (refine Cmp.ff (by simp only [List.length_cons]; omega) ?_)
        | (refine Need.mk (by simp only [List.length_cons]; omega) ?_)
        | (refine Cmp.tt rfl ?_)
        | (refine in_allK g cl q nm _ _ (by omega) hwq (fun h => by rw [hK] at h; cases h) (fun l h => ?_); rw [hK] at h; cases h)
        | (exact hN _ ⟨nm, [], []⟩ ⟨nm, [], []⟩)
        | (rw [if_pos ⟨rfl, rfl⟩])
        | fail)
      ·have hS := hS ⟨nm, [], ks⟩ (by unfold rdClass; simp only [eW, Option.bind_some, rdBy, if_pos]; rw [hK]; simp [hke])
       have hkd : decide (ks ≠ []) = true := decide_eq_true hke
       repeat' ((conv => whnf); first
       | refine Yz ?_
        | (refine in_next1 g nm (byL :: q) (by simp only [List.length_cons]; omega) rfl ?_)
        | (refine in_next1 g byL q (by omega) rfl ?_)
        | (refine Cmp.ff hne ?_)
        | (refine Cmp.ff hwh ?_)
        | (refine Cmp.tt (by simp only [List.length_cons]; omega) ?_)
        | (refine Cmp.ff (by simp only [List.length_cons]; omega) ?_)
        | (refine Need.mk (by simp only [List.length_cons]; omega) ?_)
        | (refine Cmp.tt rfl ?_)
        | (refine in_allK g cl q nm _ _ (by omega) hwq (fun h => by rw [hK] at h; cases h) (fun l h => ?_); rw [hK] at h; cases h; rw [hkd])
        | (exact hS _ ⟨nm, [], ks⟩)
        | (rw [if_pos ⟨rfl, rfl⟩])
        | fail)
    ·have hN := hN (by unfold rdClass; simp only [eW, Option.bind_some, rdBy]; rw [if_neg hby]; rfl)
     repeat' ((conv => whnf); first
     | refine Yz ?_
      | (refine in_next1 g nm (w :: q) (by simp only [List.length_cons]; omega) rfl ?_)
      | (refine in_next1 g w q (by omega) rfl ?_)
      | (refine Cmp.ff hne ?_)
      | (refine Cmp.ff hwh ?_)
      | (refine Cmp.ff hby ?_)
      | (refine Cmp.tt (by simp only [List.length_cons]; omega) ?_)
      | (refine Cmp.ff (by simp only [List.length_cons]; omega) ?_)
      | (refine Need.mk (by simp only [List.length_cons]; omega) ?_)
      | (exact hN _ ⟨[], [], []⟩ ⟨nm, [], []⟩)
      | fail)
end
end Go.Proofs.YthmfkkpmjcbgeaaGreatDoor.Co
/-
 Priority: the program's Parse: the words of a pool.
-/
namespace Go.Proofs.YthmfkkpmjcbgeaaGreatDoor.Co
open Go Go.Evl
set_option maxRecDepth 100000
theorem rdPool_five (cl : List Cls) (ws : List (List UInt8)) (h : ws.length ≠ 5) : rdPool cl ws = none := by
 match ws with
 | [] => rfl
 | [_] => rfl
 | [_, _] => rfl
 | [_, _, _] => rfl
 | [_, _, _, _] => rfl
 | [_, _, _, _, _] => exact absurd rfl h
 | _ :: _ :: _ :: _ :: _ :: _ :: _ => rfl
theorem rdPool_int (cl : List Cls) (a b c : List UInt8) : rdPool cl [a, shareL, b, ofL, c] = if (intV a).2 = true ∧ (intV b).2 = true ∧ (intV c).2 = true then some ⟨cl, (intV a).1, (intV c).1, (intV b).1⟩ else none := by
 have key : ∀ s, (numD s = none ∧ ¬ (intV s).2 = true) ∨ ((intV s).2 = true ∧ ∃ n : Nat, numD s = some n ∧ (n : Int) = (intV s).1) := fun s => by
  have h := intV_num s
  by_cases hb : (intV s).2 = true
  ·rw [if_pos hb] at h
   have := intV_ge hb
   exact .inr ⟨hb, _, h, by omega⟩
  ·rw [if_neg hb] at h
   exact .inl ⟨h, hb⟩
 unfold rdPool
 simp only [and_self, if_pos]
 rcases key a with ⟨h1, h2⟩ | ⟨h1, x, h2, h3⟩
 ·rw [h1, if_neg (fun h => h2 h.1)]; rfl
 ·rcases key b with ⟨k1, k2⟩ | ⟨k1, y, k2, k3⟩
  ·rw [h2, k1, if_neg (fun h => k2 h.2.1)]; rfl
  ·rcases key c with ⟨j1, j2⟩ | ⟨j1, z, j2, j3⟩
   ·rw [h2, k2, j1, if_neg (fun h => j2 h.2.2)]; rfl
   ·rw [h2, k2, j2, if_pos ⟨h1, k1, j1⟩, ← h3, ← k3, ← j3]; rfl
abbrev ppA (cl : List Cls) (ws : List (List UInt8)) : Mem := [(⟨0, 2, 0⟩, .row true ty_priority_Class 3 0 []), (⟨0, 2, 1⟩, .cells ty_priority_Program [.ref ⟨0, 2, 0⟩ 0 0 0, I 0, I 0, I 0]), (⟨0, 6, 0⟩, .row true ty_priority_Class 3 cl.length (cl.flatMap Cls.cells)), (⟨0, 6, 1⟩, .cells ty_priority_Program [.ref ⟨0, 6, 0⟩ 0 cl.length cl.length, I 0, I 0, I 0]), (⟨1, 2, 0⟩, .cells ty_priority_Program [.ref ⟨0, 6, 0⟩ 0 cl.length cl.length, I 0, I 0, I 0]), (⟨1, 4, 0⟩, .row true ty_priority_Class 3 0 []), (⟨1, 4, 1⟩, .cells ty_priority_Program [.ref ⟨1, 4, 0⟩ 0 0 0, I 0, I 0, I 0]), (⟨1, 24, 0⟩, .cells ty_priority_reader [LS ws]), (⟨2, 3, 0⟩, .cells ty_priority_Program [.ref ⟨0, 6, 0⟩ 0 cl.length cl.length, I 0, I 0, I 0]), (⟨2, 4, 0⟩, .row true ty_priority_Class 3 0 []), (⟨2, 4, 1⟩, .cells ty_priority_Program [.ref ⟨2, 34, 0⟩ 0 0 0, I 0, I 0, I 0]), (⟨2, 34, 0⟩, .row true ty_priority_Class 3 0 [])]
abbrev ppB (cl : List Cls) (ws : List (List UInt8)) (a b c : Int) : Mem := [(⟨0, 2, 0⟩, .row true ty_priority_Class 3 0 []), (⟨0, 2, 1⟩, .cells ty_priority_Program [.ref ⟨0, 2, 0⟩ 0 0 0, I 0, I 0, I 0]), (⟨0, 6, 0⟩, .row true ty_priority_Class 3 cl.length (cl.flatMap Cls.cells)), (⟨0, 6, 1⟩, .cells ty_priority_Program [.ref ⟨0, 6, 0⟩ 0 cl.length cl.length, I 0, I 0, I 0]), (⟨1, 2, 0⟩, .cells ty_priority_Program [.ref ⟨0, 6, 0⟩ 0 cl.length cl.length, I 0, I 0, I 0]), (⟨1, 4, 0⟩, .row true ty_priority_Class 3 0 []), (⟨1, 4, 1⟩, .cells ty_priority_Program [.ref ⟨1, 4, 0⟩ 0 0 0, I 0, I 0, I 0]), (⟨1, 24, 0⟩, .cells ty_priority_reader [LS ws]), (⟨2, 3, 0⟩, .cells ty_priority_Program [.ref ⟨0, 6, 0⟩ 0 cl.length cl.length, I 0, I 0, I 0]), (⟨2, 4, 0⟩, .row true ty_priority_Class 3 0 []), (⟨2, 4, 1⟩, .cells ty_priority_Program [.ref ⟨2, 52, 0⟩ 0 0 0, I 0, I 0, I 0]), (⟨2, 6, 0⟩, .cells ty_3_int [I a, I b, I c]), (⟨2, 52, 0⟩, .row true ty_priority_Class 3 0 [])]
abbrev ppC (cl : List Cls) (ws : List (List UInt8)) (a b c : Int) : Mem := [(⟨0, 2, 0⟩, .row true ty_priority_Class 3 0 []), (⟨0, 2, 1⟩, .cells ty_priority_Program [.ref ⟨0, 2, 0⟩ 0 0 0, I 0, I 0, I 0]), (⟨0, 6, 0⟩, .row true ty_priority_Class 3 cl.length (cl.flatMap Cls.cells)), (⟨0, 6, 1⟩, .cells ty_priority_Program [.ref ⟨0, 6, 0⟩ 0 cl.length cl.length, I 0, I 0, I 0]), (⟨1, 2, 0⟩, .cells ty_priority_Program [.ref ⟨0, 6, 0⟩ 0 cl.length cl.length, I 0, I 0, I 0]), (⟨1, 4, 0⟩, .row true ty_priority_Class 3 0 []), (⟨1, 4, 1⟩, .cells ty_priority_Program [.ref ⟨1, 4, 0⟩ 0 0 0, I 0, I 0, I 0]), (⟨1, 24, 0⟩, .cells ty_priority_reader [LS ws]), (⟨2, 3, 0⟩, .cells ty_priority_Program [.ref ⟨0, 6, 0⟩ 0 cl.length cl.length, I a, I c, I b]), (⟨2, 4, 0⟩, .row true ty_priority_Class 3 0 []), (⟨2, 4, 1⟩, .cells ty_priority_Program [.ref ⟨0, 6, 0⟩ 0 cl.length cl.length, I a, I c, I b]), (⟨2, 6, 0⟩, .cells ty_3_int [I a, I b, I c])]
section
variable {E : Oracle} (g : Good E)
include g
set_option maxHeartbeats 16000000 in
theorem in_pool (cl : List Cls) (ws : List (List UInt8)) (hn : ws.length ≤ 1000000) (hw : ∀ w ∈ ws, w.length ≤ 1000000) {K : V → Mem → Prop}
  (hA : rdPool cl ws = none → K (.tup [.agg [.ref ⟨2, 34, 0⟩ 0 0 0, I 0, I 0, I 0], B false]) (ppA cl ws))
  (hB : rdPool cl ws = none → ∀ a b c : Int, K (.tup [.agg [.ref ⟨2, 52, 0⟩ 0 0 0, I 0, I 0, I 0], B false]) (ppB cl ws a b c))
  (hC : ∀ a b c : Int, rdPool cl ws = some ⟨cl, a, c, b⟩ → K (.tup [.agg [.ref ⟨0, 6, 0⟩ 0 cl.length cl.length, I a, I c, I b], B true]) (ppC cl ws a b c)) :
  In E 2 n_priority_reader_pool [.ptr ⟨1, 24, 0⟩ 0 0, .agg [.ref ⟨0, 6, 0⟩ 0 cl.length cl.length, I 0, I 0, I 0]] (plM cl ws) K := by
 refine In.enter (f := n_priority_reader_pool) g.lim rfl rfl ?_
 by_cases h5 : ws.length = 5
 ·match ws, h5 with
  | [a, s, b, o, c], _ =>
   have ha := s_integer g a (hw a (by simp))
   have hb := s_integer g b (hw b (by simp))
   have hc := s_integer g c (hw c (by simp))
   by_cases hs : s = shareL
   ·by_cases ho : o = ofL
    ·subst hs ho
     rw [rdPool_int] at hA hB hC
     generalize intV a = x at *
     generalize intV b = y at *
     generalize intV c = z at *
     obtain ⟨x, p⟩ := x
     obtain ⟨y, q⟩ := y
     obtain ⟨z, r⟩ := z
     cases p with
     | false =>
      have hB := hB rfl 0 0 0
      repeat' ((conv => whnf); first
      | refine Yz ?_
       | (refine LoopW.step g.lim ?_)
       | (refine Cmp.tt rfl ?_)
       | (refine Cmp.ff (fun h => h rfl) ?_)
       | (apply CallI.of; assumption)
       | (exact hB)
       | fail)
     | true =>
      cases q with
      | false =>
       have hB := hB rfl x 0 0
       repeat' ((conv => whnf); first
       | refine Yz ?_
        | (refine LoopW.step g.lim ?_)
        | (refine Cmp.tt rfl ?_)
        | (refine Cmp.ff (fun h => h rfl) ?_)
        | (apply CallI.of; assumption)
        | (exact hB)
        | fail)
      | true =>
       cases r with
       | false =>
        have hB := hB rfl x y 0
        repeat' ((conv => whnf); first
        | refine Yz ?_
         | (refine LoopW.step g.lim ?_)
         | (refine Cmp.tt rfl ?_)
         | (refine Cmp.ff (fun h => h rfl) ?_)
         | (apply CallI.of; assumption)
         | (exact hB)
         | fail)
       | true =>
        have hC := hC x y z rfl
        repeat' ((conv => whnf); first
        | refine Yz ?_
         | (refine LoopW.step g.lim ?_)
         | (refine Cmp.tt rfl ?_)
         | (refine Cmp.ff (fun h => h rfl) ?_)
         | (apply CallI.of; assumption)
         | (refine Need.mk ⟨rfl, Nat.le_refl _⟩ ?_)
         | (exact hC)
         | fail)
    ·have hA := hA (by unfold rdPool; simp only; rw [if_neg (fun h => ho h.2)])
     subst hs
     repeat' ((conv => whnf); first
     | refine Yz ?_
      | (refine Cmp.tt rfl ?_)
      | (refine Cmp.ff ho ?_)
      | (exact hA)
      | fail)
   ·have hA := hA (by unfold rdPool; simp only; rw [if_neg (fun h => hs h.1)])
    repeat' ((conv => whnf); first
    | refine Yz ?_
     | (refine Cmp.tt rfl ?_)
     | (refine Cmp.ff hs ?_)
     | (exact hA)
     | fail)
 ·have hA := hA (rdPool_five cl ws h5)
  repeat' ((conv => whnf); first
  | refine Yz ?_
   | (exact hA)
   | fail)
end
end Go.Proofs.YthmfkkpmjcbgeaaGreatDoor.Co
/-
 A text cut off at its last line feed.
-/
namespace Go.Proofs.YthmfkkpmjcbgeaaGreatDoor.Co
open Go Go.Evl
theorem suffix_lf (s : List UInt8) : Lib.hasSuffix s [10] = wholeB s := by
 unfold Lib.hasSuffix wholeB
 rw [Bool.eq_iff_iff, List.isSuffixOf_iff_suffix, decide_eq_true_eq, List.getLast?_eq_some_iff]
 exact ⟨fun ⟨t, e⟩ => ⟨t, e.symm⟩, fun ⟨t, e⟩ => ⟨t, e.symm⟩⟩
theorem endW_win {p : List UInt8} (h : wholeB p = true) : 1 ≤ p.length ∧ endW p = p.take (p.length - 1) := by
 have e := whole_eq h
 constructor
 ·rw [e]; simp
 ·unfold endW
  rw [if_pos h, List.dropLast_eq_take]
section
variable {E : Oracle} (g : Good E)
include g
set_option maxRecDepth 100000
theorem s_CutLF (p : List UInt8) (hs : p.length ≤ 1000000) : Fc E n_strings_CutSuffix [S p, S [10]] (.tup [S (endW p), B (wholeB p)]) := by
 have h0 : Fc E n_internal_stringslite_HasSuffix [S p, S [10]] (B (wholeB p)) := Fc.extern g.lim (x := suffixX) rfl (v := B (wholeB p)) (m' := []) (by simp only [suffixX]; rw [if_pos hs, suffix_lf]) rfl
 have h1 : Fc E n_internal_stringslite_CutSuffix [S p, S [10]] (.tup [S (endW p), B (wholeB p)]) := by
  refine g.fn rfl rfl ?_
  cases hw : wholeB p
  ·rw [hw] at h0
   have e : endW p = p := by unfold endW; rw [hw]; rfl
   rw [e]
   repeat' ((conv => whnf); first
   | refine Yz ?_
    | (apply CallI.of; assumption)
    | (refine Ret.mk rfl))
  ·rw [hw] at h0
   obtain ⟨hl, e⟩ := endW_win hw
   have h10 : (([10] : List UInt8).length : Int) = 1 := rfl
   rw [e]
   repeat' ((conv => whnf); first
   | refine Yz ?_
    | (apply CallI.of; assumption)
    | (refine Bounds.mk (by omega) ?_)
    | (refine Ret.mk ?_))
   simp [win]
 refine g.fn rfl rfl ?_
 repeat' ((conv => whnf); first
 | refine Yz ?_
  | (apply CallI.of; assumption)
  | (refine Ret.mk rfl))
end
end Go.Proofs.YthmfkkpmjcbgeaaGreatDoor.Co
/-
 The lines of a text with their line feeds: strings.SplitAfter's, told by recursion.
-/
namespace Go.Proofs.YthmfkkpmjcbgeaaGreatDoor.Co
open Go Go.Evl Go.Lib
def aft (b : UInt8) : List UInt8 → List (List UInt8)
 | [] => [[]]
 | x :: r => if x = b then [x] :: aft b r else
  match aft b r with
  | [] => [[x]]
  | p :: q => (x :: p) :: q
theorem splitK_aft (b : UInt8) : ∀ s : List UInt8, splitK [b] 1 (count s [b]) s = aft b s
 | [] => by
  have : count ([] : List UInt8) [b] = 0 := count_miss (by rw [index_one]; rfl)
  rw [this]; rfl
 | x :: r => by
  have ih := splitK_aft b r
  unfold aft
  by_cases h : x = b
  ·subst h
   have hi : index (x :: r) [x] = ((0 : Nat) : Int) := by rw [index_one]; simp [indexByte]
   have hc := count_hit (by simp) hi
   simp only [List.length_cons, List.length_nil, Nat.zero_add, List.drop_succ_cons, List.drop_zero] at hc
   rw [hc, Nat.add_comm 1, if_pos rfl, ← ih]
   simp only [splitK, hi, List.length_cons, List.length_nil]
   rfl
  ·rw [count_cons_ne x b r h, if_neg h, ← ih]
   have hx : (x == b) = false := by simpa using h
   generalize count r [b] = k
   cases k with
   | zero => rfl
   | succ k =>
    have hr : index (x :: r) [b] = if indexByte r b == -1 then -1 else indexByte r b + 1 := by rw [index_one]; simp [indexByte, hx]
    have hq : index r [b] = indexByte r b := index_one r b
    simp only [splitK, hr, hq]
    have hge := indexByte_ge r b
    by_cases hm : indexByte r b = -1
    ·simp [hm]
    ·obtain ⟨i, hi⟩ : ∃ i : Nat, indexByte r b = i := ⟨(indexByte r b).toNat, by omega⟩
     rw [hi]
     have e1 : (((i : Nat) : Int) == -1) = false := by simp
     have e2 : (((i : Nat) : Int) + 1 == -1) = false := by simp; omega
     have e3 : (((i : Nat) : Int) + 1).toNat = i + 1 := by omega
     simp only [e1, e2, e3, Bool.false_eq_true, if_false, Int.toNat_natCast, List.take_succ_cons, List.length_cons, List.length_nil, Nat.zero_add, List.drop_succ_cons]
theorem splitAD_aft (s : List UInt8) (b : UInt8) : splitAD s [b] 1 = aft b s := by
 unfold splitAD
 rw [splitB_data]
 exact splitK_aft b s
theorem aft_pcs : ∀ s : List UInt8, aft 10 s = if s = [] ∨ s.getLast? = some 10 then pcs s ++ [[]] else pcs s
 | [] => by simp [aft, pcs]
 | c :: r => by
  have ih := aft_pcs r
  rw [aft, pcs]
  cases r with
  | nil =>
   by_cases hc : c = 10
   ·subst hc; simp [aft, pcs]
   ·simp [aft, pcs, hc]
  | cons d r =>
   rw [ih]
   have hg : (c :: d :: r).getLast? = (d :: r).getLast? := List.getLast?_cons_cons
   rw [hg]
   have hn := pcs_ne (s := d :: r) (by simp)
   by_cases hl : (d :: r).getLast? = some 10
   ·simp only [reduceCtorEq, false_or, if_pos hl]
    by_cases hc : c = 10
    ·rw [if_pos hc, if_pos hc, hc]; rfl
    ·rw [if_neg hc, if_neg hc]
     cases hp : pcs (d :: r) with
     | nil => exact absurd hp hn
     | cons p q => rfl
   ·simp only [reduceCtorEq, false_or, if_neg hl]
    by_cases hc : c = 10
    ·rw [if_pos hc, if_pos hc, hc]
    ·rw [if_neg hc, if_neg hc]
     try (cases pcs (d :: r) <;> rfl)
end Go.Proofs.YthmfkkpmjcbgeaaGreatDoor.Co
/-
 Priority: the program's Parse: a line.
-/
namespace Go.Proofs.YthmfkkpmjcbgeaaGreatDoor.Co
open Go Go.Evl
set_option maxRecDepth 100000
abbrev pM (cl : List Cls) : Mem := [(⟨0, 2, 0⟩, .row true ty_priority_Class 3 0 []), (⟨0, 2, 1⟩, .cells ty_priority_Program [.ref ⟨0, 2, 0⟩ 0 0 0, I 0, I 0, I 0]), (⟨0, 6, 0⟩, .row true ty_priority_Class 3 cl.length (cl.flatMap Cls.cells)), (⟨0, 6, 1⟩, .cells ty_priority_Program [.ref ⟨0, 6, 0⟩ 0 cl.length cl.length, I 0, I 0, I 0])]
abbrev pMx (cl : List Cls) (c : Cls) : Mem := [(⟨0, 2, 0⟩, .row true ty_priority_Class 3 0 []), (⟨0, 2, 1⟩, .cells ty_priority_Program [.ref ⟨0, 2, 0⟩ 0 0 0, I 0, I 0, I 0]), (⟨0, 6, 0⟩, .row true ty_priority_Class 3 (cl.length + 1) (cl.flatMap Cls.cells ++ c.cells)), (⟨0, 6, 1⟩, .cells ty_priority_Program [.ref ⟨0, 6, 0⟩ 0 cl.length cl.length, I 0, I 0, I 0])]
abbrev pcM (cl : List Cls) (ws : List (List UInt8)) (c : Cls) : Mem := [(⟨0, 2, 0⟩, .row true ty_priority_Class 3 0 []), (⟨0, 2, 1⟩, .cells ty_priority_Program [.ref ⟨0, 2, 0⟩ 0 0 0, I 0, I 0, I 0]), (⟨0, 6, 0⟩, .row true ty_priority_Class 3 cl.length (cl.flatMap Cls.cells)), (⟨0, 6, 1⟩, .cells ty_priority_Program [.ref ⟨0, 6, 0⟩ 0 cl.length cl.length, I 0, I 0, I 0]), (⟨1, 2, 0⟩, .cells ty_priority_Program [.ref ⟨0, 6, 0⟩ 0 cl.length cl.length, I 0, I 0, I 0]), (⟨1, 4, 0⟩, .row true ty_priority_Class 3 0 []), (⟨1, 4, 1⟩, .cells ty_priority_Program [.ref ⟨1, 4, 0⟩ 0 0 0, I 0, I 0, I 0]), (⟨1, 24, 0⟩, .cells ty_priority_reader [LS ws]), (⟨1, 10, 0⟩, .cells ty_priority_Class [S c.nm, LT c.wh, LK c.ky]), (⟨2, 3, 0⟩, .cells ty_priority_Class [S c.nm, LT c.wh, LK c.ky])]
section
variable {E : Oracle} (g : Good E)
include g
set_option maxHeartbeats 4000000 in
theorem in_clsP (cl : List Cls) (ws : List (List UInt8)) (c : Cls) (hl : cl.length ≤ 1000000) {K : V → Mem → Prop} (hK : K (I (idxG (nmsC cl) c.nm 0)) (pcM cl ws c)) :
  In E 4 n_slices_IndexFunc_Lpriority_Class_priority_Class [.ref ⟨0, 6, 0⟩ 0 cl.length cl.length, .fn n_priority_added_1 [] [.ptr ⟨2, 3, 0⟩ 0 0]] (pcM cl ws c) K := by
 generalize hA : idxG (nmsC cl) c.nm 0 = A at *
 refine In.enter (f := n_slices_IndexFunc_Lpriority_Class_priority_Class) g.lim rfl rfl ?_
 repeat' ((conv => whnf); first
 | refine Yz ?_)
 refine LoopW.to (LoopW.upP g (fun k => [(0, .ref ⟨0, 6, 0⟩ 0 cl.length cl.length), (1, .fn n_priority_added_1 [] [.ptr ⟨2, 3, 0⟩ 0 0]), (7, I cl.length), (8, I k)]) (fun _ => pcM cl ws c) (fun k => idxG (nmsC (cl.drop k)) c.nm k = A) cl.length (fun k hk h0 ih => ?_) 0 (Nat.zero_le _) hA) rfl rfl
 by_cases hlt : k < cl.length
 ·rw [List.drop_eq_getElem_cons hlt, nmsC, List.map_cons, idxG] at h0
  have ih := ih hlt
  by_cases hd : cl[k].nm = c.nm
  ·rw [if_pos hd.symm] at h0
   subst h0
   repeat' ((conv => whnf); first
   | refine Yz ?_
    | (refine PickW.rec0 Cls.cells_length k rfl hlt ?_)
    | (refine In.enter (f := n_priority_added_1) g.lim rfl rfl ?_)
    | (refine Cmp.tt hd ?_)
    | (exact hK)
    | fail)
  ·rw [if_neg (Ne.symm hd)] at h0
   have ih := ih h0
   repeat' ((conv => whnf); first
   | refine Yz ?_
    | (refine PickW.rec0 Cls.cells_length k rfl hlt ?_)
    | (refine In.enter (f := n_priority_added_1) g.lim rfl rfl ?_)
    | (refine Cmp.ff hd ?_)
    | (refine LoopW.to ih rfl rfl)
    | fail)
 ·rw [List.drop_eq_nil_of_le (by omega), nmsC, List.map_nil, idxG] at h0
  subst h0
  repeat' ((conv => whnf); first
  | refine Yz ?_
   | (exact hK)
   | fail)
set_option maxHeartbeats 32000000 in
theorem in_line (cl : List Cls) (s : List UInt8) (hs : s.length ≤ 4096) (hcl : cl.length ≤ 16) {K : V → Mem → Prop}
  (hE1 : ∀ (b : Bool) (e : Int), e ≠ 0 → rdLine cl s = .bad e → K (.tup [.agg [.ref ⟨0, 40, 0⟩ 0 0 0, I 0, I 0, I 0], B b, I e]) (pM cl ++ [(⟨0, 40, 0⟩, .row true ty_priority_Class 3 0 [])]))
  (hE3 : ∀ (x y z e : Int), e ≠ 0 → rdLine cl s = .bad e → K (.tup [.agg [.ref ⟨0, 6, 0⟩ 0 cl.length cl.length, I x, I y, I z], B true, I e]) (pM cl))
  (hE4 : ∀ (c : Cls) (e : Int), e ≠ 0 → rdLine cl s = .bad e → K (.tup [.agg [.ref ⟨0, 6, 0⟩ 0 (cl.length + 1) (cl.length + 1), I 0, I 0, I 0], B false, I e]) (pMx cl c))
  (hS1 : ∀ c : Cls, rdLine cl s = .cls c → K (.tup [.agg [.ref ⟨0, 6, 0⟩ 0 (cl.length + 1) (cl.length + 1), I 0, I 0, I 0], B false, I 0]) (pMx cl c))
  (hS2 : ∀ x y z : Int, rdLine cl s = .pool ⟨cl, x, y, z⟩ → K (.tup [.agg [.ref ⟨0, 6, 0⟩ 0 cl.length cl.length, I x, I y, I z], B true, I 0]) (pM cl)) :
  In E 1 n_priority_Program_line [.agg [.ref ⟨0, 6, 0⟩ 0 cl.length cl.length, I 0, I 0, I 0], S s] (pM cl) (fun v m' => backW ⟨0, 0 + 1⟩ 40 false v m' K) := by
 refine In.enter (f := n_priority_Program_line) g.lim rfl rfl ?_
 have h1 := s_CutLF g s (by omega)
 have he : (endW s).length ≤ 4096 := by
  unfold endW
  split
  ·rw [List.length_dropLast]; omega
  ·exact hs
 have h2 := s_Split g (endW s) (by omega)
 cases hw : wholeB s with
 | false =>
  have hE1 := hE1 false 25 (by decide) (by
   have e : rdWords s = none := by
    unfold rdWords
    rw [if_neg]
    intro h
    have : wholeB s = true := decide_eq_true h.1
    rw [hw] at this
    cases this
   unfold rdLine
   rw [e])
  rw [hw] at h1
  repeat' ((conv => whnf); first
  | refine Yz ?_
   | (apply CallI.of; assumption)
   | (refine Some'.nrow (v' := .tup [.agg [.ref ⟨0, 40, 0⟩ 0 0 0, I 0, I 0, I 0], B false, I 25]) 0 rfl (by decide) rfl rfl rfl ?_)
   | (exact hE1)
   | fail)
 | true =>
  rw [hw] at h1
  have ed : endW s = s.dropLast := by unfold endW; rw [if_pos hw]
  rw [ed] at h1 h2 he
  have hlast : s.getLast? = some 10 := of_decide_eq_true hw
  have hpl := parts_len 32 s.dropLast
  have hpn := parts_ne 32 s.dropLast
  have h3 := s_ContainsS g (parts 32 s.dropLast) [] (by omega)
  by_cases hm : [] ∈ parts 32 s.dropLast
  ·rw [decide_eq_true hm] at h3
   have hE1 := hE1 false 25 (by decide) (by
    have e : rdWords s = none := by
     unfold rdWords
     rw [if_neg]
     exact fun h => h.2 hm
    unfold rdLine
    rw [e])
   generalize parts 32 s.dropLast = ws at *
   repeat' ((conv => whnf); first
   | refine Yz ?_
    | (apply CallI.of; assumption)
    | (refine Some'.nrow (v' := .tup [.agg [.ref ⟨0, 40, 0⟩ 0 0 0, I 0, I 0, I 0], B false, I 25]) 0 rfl (by decide) rfl rfl rfl ?_)
    | (exact hE1)
    | fail)
  ·rw [decide_eq_false hm] at h3
   have hrw : rdWords s = some (parts 32 s.dropLast) := by
    unfold rdWords
    exact if_pos ⟨hlast, hm⟩
   have hlen := parts_mem_len 32 s.dropLast
   unfold rdLine at hE1 hE3 hE4 hS1 hS2
   rw [hrw] at hE1 hE3 hE4 hS1 hS2
   generalize parts 32 s.dropLast = ws at *
   cases ws with
   | nil => exact absurd rfl hpn
   | cons w q =>
    simp only at hE1 hE3 hE4 hS1 hS2
    rw [List.length_cons] at hpl
    have hq : ∀ x ∈ q, x ≠ [] ∧ x.length ≤ 1000000 := fun x hx => ⟨fun e => hm (by rw [← e]; exact List.mem_cons_of_mem _ hx), by have := hlen x (List.mem_cons_of_mem _ hx); omega⟩
    by_cases hwc : w = classL
    ·rw [if_neg (by rw [hwc]; decide), if_pos hwc] at hE1 hE4 hS1
     cases hR : rdClass q with
     | none =>
      rw [hR] at hE1
      have hE1 := hE1 false 25 (by decide) rfl
      by_cases h16 : 16 ≤ cl.length
      all_goals repeat' ((conv => whnf); first
      | refine Yz ?_
       | (apply CallI.of; first | exact h1 | exact h2 | exact h3)
       | (refine in_next1 g w q (by omega) rfl ?_)
       | (refine Cmp.tt hwc ?_)
       | (refine in_class g cl q (by omega) hq (fun _ _ _ _ => ?_) (fun c h => by rw [hR] at h; cases h))
       | (refine CallI.of (s_pwhen g _ _) ?_)
       | (refine CallI.of (s_pfirst2 g _ _) ?_)
       | (refine Some'.nrow (v' := .tup [.agg [.ref ⟨0, 40, 0⟩ 0 0 0, I 0, I 0, I 0], B false, I 25]) 0 rfl (by decide) rfl rfl rfl ?_)
       | (exact hE1)
       | fail)
     | some c =>
      rw [hR] at hE1 hE4 hS1
      simp only at hE1 hE4 hS1
      have hsm := chkPg_small hR (by omega)
      by_cases h16 : 16 ≤ cl.length
      ·rw [if_pos h16] at hE1
       have hE1 := hE1 false 5 (by decide) rfl
       repeat' ((conv => whnf); first
       | refine Yz ?_
        | (apply CallI.of; first | exact h1 | exact h2 | exact h3)
        | (refine in_next1 g w q (by omega) rfl ?_)
        | (refine Cmp.tt hwc ?_)
        | (refine in_class g cl q (by omega) hq (fun h => by rw [hR] at h; cases h) (fun c' h _ _ => ?_); rw [hR] at h; cases h)
        | (refine CallI.of (s_pwhen g _ _) ?_)
        | (refine CallI.of (s_pfirst2 g _ _) ?_)
        | (refine Some'.nrow (v' := .tup [.agg [.ref ⟨0, 40, 0⟩ 0 0 0, I 0, I 0, I 0], B false, I 5]) 0 rfl (by decide) rfl rfl rfl ?_)
        | (exact hE1)
        | fail)
      ·rw [if_neg h16] at hE4 hS1
       obtain ⟨nm, wh, ky⟩ := c
       have k1 := s_ClassCheck g ⟨nm, wh, ky⟩ hsm
       have hidx := idxG_mem nm (nmsC cl) 0
       have k3 := s_pfirst2 g (chkCs ⟨nm, wh, ky⟩) (if nm ∈ nmsC cl then 9 else 0)
       have hin := fun {K} (ws : List (List UInt8)) => in_clsP g cl ws ⟨nm, wh, ky⟩ (by omega) (K := K)
       have hout : K (.tup [.agg [.ref ⟨0, 6, 0⟩ 0 (cl.length + 1) (cl.length + 1), I 0, I 0, I 0], B false, I (chkCa (nmsC cl) ⟨nm, wh, ky⟩)]) (pMx cl ⟨nm, wh, ky⟩) := by
        by_cases hz : chkCa (nmsC cl) ⟨nm, wh, ky⟩ = 0
        ·rw [if_pos hz] at hS1
         rw [hz]
         exact hS1 _ rfl
        ·rw [if_neg hz] at hE4
         exact hE4 _ _ hz rfl
       unfold chkCa at hout
       clear hE1 hE3 hE4 hS1 hS2
       dsimp only at hin hout
       generalize idxG (nmsC cl) nm 0 = r at *
       generalize chkCs ⟨nm, wh, ky⟩ = e at *
       by_cases hr : 0 ≤ r
       ·rw [if_pos (hidx.1 hr)] at k3 hout
        repeat' ((conv => whnf); first
        | refine Yz ?_
         | (apply CallI.of; first | exact h1 | exact h2 | exact h3 | exact k1 | exact k3)
         | (refine in_next1 g w q (by omega) rfl ?_)
         | (refine Cmp.tt hwc ?_)
         | (refine in_class g cl q (by omega) hq (fun h => by rw [hR] at h; cases h) (fun c' h _ _ => ?_); rw [hR] at h; cases h)
         | (refine In.enter (f := n_priority_added) g.lim rfl rfl ?_)
         | (refine In.enter (f := n_slices_ContainsFunc_Lpriority_Class_priority_Class) g.lim rfl rfl ?_)
         | (refine hin _ ?_)
         | (refine CallI.of (s_pwhen g _ _) ?_)
         | (refine CallI.of (s_pfirst2 g _ _) ?_)
         | (refine Need.mk ⟨rfl, rfl, rfl, rfl, rfl, rfl, by show (cl.length + 1) * 64 ≤ _; omega, by omega⟩ ?_)
         | (refine Need.mk ⟨rfl, Nat.le_refl _⟩ ?_)
         | (refine Some'.low rfl rfl (Nat.lt_succ_self 0) ?_)
         | (exact hout)
         | fail)
       ·rw [if_neg (fun h => hr (hidx.2 h))] at k3 hout
        repeat' ((conv => whnf); first
        | refine Yz ?_
         | (apply CallI.of; first | exact h1 | exact h2 | exact h3 | exact k1 | exact k3)
         | (refine in_next1 g w q (by omega) rfl ?_)
         | (refine Cmp.tt hwc ?_)
         | (refine in_class g cl q (by omega) hq (fun h => by rw [hR] at h; cases h) (fun c' h _ _ => ?_); rw [hR] at h; cases h)
         | (refine In.enter (f := n_priority_added) g.lim rfl rfl ?_)
         | (refine In.enter (f := n_slices_ContainsFunc_Lpriority_Class_priority_Class) g.lim rfl rfl ?_)
         | (refine hin _ ?_)
         | (refine CallI.of (s_pwhen g _ _) ?_)
         | (refine CallI.of (s_pfirst2 g _ _) ?_)
         | (refine Need.mk ⟨rfl, rfl, rfl, rfl, rfl, rfl, by show (cl.length + 1) * 64 ≤ _; omega, by omega⟩ ?_)
         | (refine Need.mk ⟨rfl, Nat.le_refl _⟩ ?_)
         | (refine Some'.low rfl rfl (Nat.lt_succ_self 0) ?_)
         | (exact hout)
         | fail)
    ·by_cases hwp : w = poolL
     ·rw [if_pos hwp] at hE1 hE3 hS2
      clear hE4 hS1
      have hE25 : rdPool cl q = none → K (.tup [.agg [.ref ⟨0, 40, 0⟩ 0 0 0, I 0, I 0, I 0], B true, I 25]) (pM cl ++ [(⟨0, 40, 0⟩, .row true ty_priority_Class 3 0 [])]) := fun h => by
       rw [h] at hE1
       exact hE1 true 25 (by decide) rfl
      have hout : ∀ a b c : Int, rdPool cl q = some ⟨cl, a, c, b⟩ → K (.tup [.agg [.ref ⟨0, 6, 0⟩ 0 cl.length cl.length, I a, I c, I b], B true, I (firstI [0, if cl.length = 0 then 12 else 0, chkPool ⟨cl, a, c, b⟩])]) (pM cl) := fun a b c h => by
       rw [h] at hE3 hS2
       simp only at hE3 hS2
       by_cases h0 : cl = []
       ·rw [if_pos h0] at hE3
        subst h0
        exact hE3 a c b 12 (by decide) rfl
       ·have h0' : ¬ cl.length = 0 := fun e => h0 (List.eq_nil_of_length_eq_zero e)
        rw [if_neg h0] at hE3 hS2
        rw [if_neg h0']
        have ef : firstI [0, 0, chkPool ⟨cl, a, c, b⟩] = chkPool ⟨cl, a, c, b⟩ := by
         generalize chkPool ⟨cl, a, c, b⟩ = e
         by_cases he : e = 0
         ·subst he; decide
         ·simp [firstI, he]
        rw [ef]
        by_cases hz : chkPool ⟨cl, a, c, b⟩ = 0
        ·rw [if_pos hz] at hS2
         rw [hz]
         exact hS2 a c b rfl
        ·rw [if_neg hz] at hE3
         exact hE3 a c b _ hz rfl
      clear hE1 hE3 hS2
      have hwi := s_pwithin g
      by_cases h0 : cl.length = 0
      all_goals (first | rw [if_pos h0] at hout | rw [if_neg h0] at hout)
      all_goals repeat' ((conv => whnf); first
      | refine Yz ?_
       | (apply CallI.of; first | exact h1 | exact h2 | exact h3)
       | (refine in_next1 g w q (by omega) rfl ?_)
       | (refine Cmp.ff hwc ?_)
       | (refine Cmp.tt hwp ?_)
       | (refine in_pool g cl q (by omega) (fun x hx => (hq x hx).2) (fun h => ?_) (fun h a b c => ?_) (fun a b c h => ?_))
       | (refine Some'.nrow (v' := .tup [.agg [.ref ⟨1, 75, 0⟩ 0 0 0, I 0, I 0, I 0], B false]) 0 rfl (by decide) rfl rfl rfl ?_)
       | (refine Some'.nrow (v' := .tup [.agg [.ref ⟨0, 40, 0⟩ 0 0 0, I 0, I 0, I 0], B true, I 25]) 0 rfl (by decide) rfl rfl rfl ?_)
       | (refine Some'.low rfl rfl (by decide) ?_)
       | (refine In.enter (f := n_priority_Program_pool) g.lim rfl rfl ?_)
       | (refine CallI.of (hwi _ _ _) ?_)
       | (refine CallI.of (s_pwhen g _ _) ?_)
       | (refine CallI.of (s_pfirst3 g _ _ _) ?_)
       | (refine Need.mk ⟨rfl, Nat.le_refl _⟩ ?_)
       | (refine Chk.mk (by simp [keptV, keptO, sameVL, sameV, sameD, Evl.look]) ?_)
       | (exact hE25 h)
       | (exact hout _ _ _ h)
       | fail)
     ·rw [if_neg hwp, if_neg hwc] at hE1
      have hE1 := hE1 false 25 (by decide) rfl
      repeat' ((conv => whnf); first
      | refine Yz ?_
       | (apply CallI.of; first | exact h1 | exact h2 | exact h3)
       | (refine in_next1 g w q (by omega) rfl ?_)
       | (refine Cmp.ff hwc ?_)
       | (refine Cmp.ff hwp ?_)
       | (refine Some'.nrow (v' := .tup [.agg [.ref ⟨0, 40, 0⟩ 0 0 0, I 0, I 0, I 0], B false, I 25]) 0 rfl (by decide) rfl rfl rfl ?_)
       | (exact hE1)
       | fail)
end
end Go.Proofs.YthmfkkpmjcbgeaaGreatDoor.Co
/-
 Priority: Parse, by the program.
-/
namespace Go.Proofs.YthmfkkpmjcbgeaaGreatDoor.Co
open Go Go.Evl
set_option maxRecDepth 100000
theorem aft_win (L : List (List UInt8)) : win ((L ++ [[]]).map D.str) (0 * 1) ((L.length - 0) * 1) = L.map D.str := by
 unfold win
 rw [Nat.zero_mul, List.drop_zero, Nat.sub_zero, Nat.mul_one, List.map_append, List.take_left' (by simp)]
section
variable {E : Oracle} (g : Good E)
include g
theorem s_SplitAfter (s : List UInt8) (hs : s.length ≤ 1000000) : Fc E n_strings_SplitAfter [S s, S [10]] (LS (aft 10 s)) := by
 have h0 : Fc E n_strings_genSplit [S s, S [10], I 1, I (-1)] (LS (aft 10 s)) := Fc.extern g.lim (x := genSplitX) rfl (v := LS (aft 10 s)) (m' := []) (by
  simp only [genSplitX]
  rw [if_pos (by simp; omega), show Int.toNat 1 = 1 from rfl, splitAD_aft]) rfl
 refine g.fn rfl rfl ?_
 repeat' ((conv => whnf); first
 | refine Yz ?_
  | (apply CallI.of; assumption)
  | (refine Ret.mk rfl))
set_option maxHeartbeats 16000000 in
theorem s_Parse5 (s : List UInt8) (hs : s.length ≤ 1000000) : Fc E n_priority_Parse [S s] (.tup [Pgv (rdP s).1, I ((rdP s).2.1 : Nat), I (rdP s).2.2]) := by
 refine g.fn rfl rfl ?_
 unfold rdP
 by_cases hl : 4096 < s.length
 ·rw [if_pos hl]
  repeat' ((conv => whnf); first
  | refine Yz ?_
   | (refine Ret.mk rfl)
   | fail)
 ·rw [if_neg hl]
  have h1 := s_SplitAfter g s hs
  rw [aft_pcs] at h1
  have hlen := pcs_mem_len s
  have hne := pcs_mem_ne s
  have hn := pcs_len s
  have hnil : ¬ (s = [] ∨ s.getLast? = some 10) → 0 < (pcs s).length := fun h => List.length_pos_iff.2 (pcs_ne fun e => h (.inl e))
  generalize hG : rdG [] 0 (pcs s) = G
  generalize pcs s = L at *
  have key : ∀ {K : Ex → Env → Mem → Prop}, (∀ (cl : List Cls) (e : Env) (m : Mem), G = (zeroP, L.length, 28) → K (.exit 0) [(2, .ptr ⟨0, 2, 1⟩ 0 0), (5, LS L), (6, .ptr ⟨0, 6, 1⟩ 0 0), (30, LS L), (31, I L.length), (32, I L.length), (33, B false)] (pM cl)) →
    (∀ e m, K .ret e m = resultsW m e [.cell 2 (some 4), .tmp 3, .tmp 4] fun v => thawW m v fun d => Ret d (.tup [Pgv G.1, I (G.2.1 : Nat), I G.2.2])) →
    LoopW E ⟨0, 0 + 1⟩ [2, 5, 6, 30, 31, 32] [⟨0, 2, 0⟩, ⟨0, 2, 1⟩, ⟨0, 6, 0⟩, ⟨0, 6, 1⟩] b_priority_Parse_1 [(2, .ptr ⟨0, 2, 1⟩ 0 0), (5, LS L), (6, .ptr ⟨0, 6, 1⟩ 0 0), (30, LS L), (31, I L.length), (32, I 0)] (pM []) K := by
   intro K hK hret
   refine LoopW.to (LoopW.by (σ := List Cls × Nat) g (fun q => q.1.length ≤ 16 ∧ q.2 ≤ L.length ∧ rdG q.1 q.2 (L.drop q.2) = G) (fun q => [(2, .ptr ⟨0, 2, 1⟩ 0 0), (5, LS L), (6, .ptr ⟨0, 6, 1⟩ 0 0), (30, LS L), (31, I L.length), (32, I q.2)]) (fun q => pM q.1) (fun q => L.length - q.2) ?_ ([], 0) ⟨by decide, Nat.zero_le _, hG⟩) rfl rfl
   rintro ⟨cl, k⟩ ⟨hcl, hk, he⟩ ih
   dsimp only at hcl hk he ih ⊢
   by_cases hlt : k < L.length
   ·rw [List.drop_eq_getElem_cons hlt, rdG] at he
    have hll := hlen _ (List.getElem_mem hlt)
    have hin := fun {K} => in_line g cl L[k] (by omega) hcl (K := K)
    generalize hLk : L[k] = l at *
    have hE : ∀ e : Int, rdLine cl l = .bad e → G = (zeroP, k, e) := fun e h => by rw [h] at he; exact he.symm
    have hS : ∀ c : Cls, rdLine cl l = .cls c → LoopW E ⟨0, 0 + 1⟩ [2, 5, 6, 30, 31, 32] [⟨0, 2, 0⟩, ⟨0, 2, 1⟩, ⟨0, 6, 0⟩, ⟨0, 6, 1⟩] b_priority_Parse_1 [(2, .ptr ⟨0, 2, 1⟩ 0 0), (5, LS L), (6, .ptr ⟨0, 6, 1⟩ 0 0), (30, LS L), (31, I L.length), (32, I (k + 1 : Nat))] (pM (cl ++ [c])) K := fun c h => by
     rw [h] at he
     have := (rdLine_cls h).2.1
     exact ih (cl ++ [c], k + 1) ⟨by rw [List.length_append, List.length_singleton]; omega, hlt, he⟩ (by dsimp only; omega)
    have hP : ∀ x y z : Int, rdLine cl l = .pool ⟨cl, x, y, z⟩ → G = if k + 1 < L.length then (zeroP, k + 1, 25) else (⟨cl, x, y, z⟩, 0, 0) := fun x y z h => by
     rw [h] at he
     rw [← he]
     simp only
     by_cases hr : k + 1 < L.length
     ·rw [if_pos hr, if_neg]
      intro e
      have := congrArg List.length e
      rw [List.length_drop, List.length_nil] at this
      omega
     ·rw [if_neg hr, if_pos (List.drop_eq_nil_of_le (by omega))]
    clear he ih hG
    by_cases hr : k + 1 < L.length
    all_goals (first | simp only [if_pos hr] at hP | simp only [if_neg hr] at hP)
    all_goals repeat' ((conv => whnf); first
    | refine Yz ?_
     | (refine Pick.strI k rfl hlt ?_; rw [hLk])
     | (refine hin (fun b e h0 h => ?_) (fun x y z e h0 h => ?_) (fun c e h0 h => ?_) (fun c h => ?_) (fun x y z h => ?_))
     | (cases ‹Bool›)
     | (refine Need.mk ⟨rfl, Nat.le_refl _⟩ ?_)
     | (refine Cmp.ff h0 ?_)
     | (rw [hret, hE _ h])
     | (rw [hret, hP _ _ _ h])
     | (refine Ret.mk ?_)
     | (refine LoopW.to (hS c h) rfl ?_)
     | fail)
    all_goals (first | rfl | (rw [if_pos ⟨rfl, rfl⟩]; rfl) | (dsimp only [pM]; rw [List.length_append, List.flatMap_append]; rfl))
   ·obtain rfl : k = L.length := by omega
    rw [List.drop_length, rdG] at he
    have hK := hK cl [] [] he.symm
    repeat' ((conv => whnf); first
    | refine Yz ?_
     | (exact hK)
     | fail)
  by_cases ht : s = [] ∨ s.getLast? = some 10
  ·rw [if_pos ht] at h1
   have hl1 : (L ++ [[]]).length = L.length + 1 := by rw [List.length_append, List.length_singleton]
   have hat : (L ++ [[]])[L.length]'(by omega) = ([] : List UInt8) := by simp
   have hwin := aft_win L
   repeat' ((conv => whnf); first
   | refine Yz ?_
    | (apply CallI.of; assumption)
    | (refine Need.mk (by omega) ?_)
    | (refine Pick.strI L.length (by omega) (by omega) ?_; rw [hat])
    | (refine Cmp.tt rfl ?_)
    | (refine Bounds.at 0 L.length (by omega) (by omega) (by omega) ?_ <;> (try dsimp only) <;> (rw [hwin]))
    | (refine LoopW.to (key (fun cl e m h => ?_) (fun e m => rfl)) rfl rfl)
    | (rw [h])
    | (refine Ret.mk rfl)
    | fail)
  ·rw [if_neg ht] at h1
   have h0 := hnil ht
   have hat : ¬ L[L.length - 1] = [] := hne _ (List.getElem_mem _)
   repeat' ((conv => whnf); first
   | refine Yz ?_
    | (apply CallI.of; assumption)
    | (refine Need.mk (by omega) ?_)
    | (refine Pick.strI (L.length - 1) (by omega) (by omega) ?_)
    | (refine Cmp.ff hat ?_)
    | (refine LoopW.to (key (fun cl e m h => ?_) (fun e m => rfl)) rfl rfl)
    | (rw [h])
    | (refine Ret.mk rfl)
    | fail)
end
end Go.Proofs.YthmfkkpmjcbgeaaGreatDoor.Co
/-
 Priority: the laws' copies of a program.
-/
namespace Go.Proofs.YthmfkkpmjcbgeaaGreatDoor.Co
open Go Go.Evl
set_option maxRecDepth 100000
theorem fl_succ {α : Type} (f : α → List D) {l : List α} {k : Nat} (h : k < l.length) : (l.take (k + 1)).flatMap f = (l.take k).flatMap f ++ f l[k] := by
 rw [List.take_add_one, List.getElem?_eq_getElem h, List.flatMap_append]
 simp
theorem fl_len {α : Type} (f : α → List D) (n : Nat) (hf : ∀ a, (f a).length = n) {l : List α} {k : Nat} (h : k ≤ l.length) : ((l.take k).flatMap f).length = k * n := by
 rw [flatR_length f n hf, List.length_take, Nat.min_eq_left h]
section
variable {E : Oracle} (g : Good E)
include g
set_option maxHeartbeats 8000000 in
theorem w_program (p : Prg) (hs : SmallP p) : Fc E n_law05_program [Pgv p] (Pgv p) := by
 refine g.fn rfl rfl ?_
 obtain ⟨l1, l2⟩ := hs
 repeat' ((conv => whnf); first
 | refine Yz ?_)
 refine LoopW.to (LoopW.up g (fun k => [(2, .ptr ⟨0, 2, 1⟩ 0 0), (3, .ptr ⟨0, 3, 1⟩ 0 0), (19, LC p.cl), (20, I p.cl.length), (21, I k)])
  (fun k => [(⟨0, 1, 0⟩, .cells ty_turnroundref05_Program [.d (.list p.cl.length (p.cl.flatMap Cls.cells)), .d (DI p.po), .d (DI p.of), .d (DI p.fo)]), (⟨0, 2, 0⟩, .row false ty_priority_Class 3 0 []), (⟨0, 2, 1⟩, .cells ty_priority_Program [.ref ⟨0, 2, 0⟩ 0 0 0, .d (DI 0), .d (DI 0), .d (DI 0)]), (⟨0, 17, 0⟩, .row false ty_priority_Class 3 k ((p.cl.take k).flatMap Cls.cells)), (⟨0, 3, 0⟩, .row false ty_priority_Class 3 0 []), (⟨0, 3, 1⟩, .cells ty_priority_Program [.ref ⟨0, 17, 0⟩ 0 k k, .d (DI p.po), .d (DI p.of), .d (DI p.fo)])])
  p.cl.length (fun k hk ih => ?_) 0 (Nat.zero_le _)) rfl rfl
 have hfl := fl_len Cls.cells 3 Cls.cells_length hk
 by_cases hlt : k < p.cl.length
 ·have ih := ih hlt
  rw [fl_succ Cls.cells hlt] at ih
  have l3 := l2 _ (List.getElem_mem hlt)
  generalize hx : p.cl[k] = x at *
  obtain ⟨nm, wh, ky⟩ := x
  obtain ⟨l4, l5⟩ := l3
  dsimp only at l4 l5
  repeat' ((conv => whnf); first
  | refine Yz ?_
   | (refine PickW.rec Cls.cells_length k rfl hlt ?_; rw [hx]))
  refine LoopW.to (LoopW.up g (fun j => [(2, .ptr ⟨0, 2, 1⟩ 0 0), (3, .ptr ⟨0, 3, 1⟩ 0 0), (5, .ptr ⟨0, 5, 0⟩ 0 0), (6, .ptr ⟨0, 6, 2⟩ 0 0), (19, LC p.cl), (20, I p.cl.length), (21, I k), (29, LT wh), (30, I wh.length), (31, I j)])
   (fun j => [(⟨0, 1, 0⟩, .cells ty_turnroundref05_Program [.d (.list p.cl.length (p.cl.flatMap Cls.cells)), .d (DI p.po), .d (DI p.of), .d (DI p.fo)]), (⟨0, 2, 0⟩, .row false ty_priority_Class 3 0 []), (⟨0, 2, 1⟩, .cells ty_priority_Program [.ref ⟨0, 2, 0⟩ 0 0 0, .d (DI 0), .d (DI 0), .d (DI 0)]), (⟨0, 17, 0⟩, .row false ty_priority_Class 3 k ((p.cl.take k).flatMap Cls.cells)), (⟨0, 3, 0⟩, .row false ty_priority_Class 3 0 []), (⟨0, 3, 1⟩, .cells ty_priority_Program [.ref ⟨0, 17, 0⟩ 0 k k, .d (DI p.po), .d (DI p.of), .d (DI p.fo)]), (⟨0, 5, 0⟩, .cells ty_turnroundref05_Class [.d (.str nm), .d (.list wh.length (wh.flatMap Tst.cells)), .d (.list ky.length (ky.flatMap Kyt.cells))]), (⟨0, 27, 0⟩, .row false ty_priority_Test 3 j ((wh.take j).flatMap Tst.cells)), (⟨0, 27, 1⟩, .row false ty_priority_Key 2 0 ([])), (⟨0, 6, 0⟩, .row false ty_priority_Test 3 0 []), (⟨0, 6, 1⟩, .row false ty_priority_Key 2 0 []), (⟨0, 6, 2⟩, .cells ty_priority_Class [.d (.str nm), .ref ⟨0, 27, 0⟩ 0 j j, .ref ⟨0, 27, 1⟩ 0 0 0])])
   wh.length (fun j hj jh => ?_) 0 (Nat.zero_le _)) rfl rfl
  have hft := fl_len Tst.cells 3 Tst.cells_length hj
  by_cases hjl : j < wh.length
  ·have jh := jh hjl
   rw [fl_succ Tst.cells hjl] at jh
   repeat' ((conv => whnf); first
   | refine Yz ?_
    | (refine PickW.rec Tst.cells_length j rfl hjl ?_)
    | (refine Need.mk (by simp only [List.length_cons, List.length_nil]; omega) ?_)
    | (refine LoopW.to jh rfl rfl))
  ·have ej : wh.take j = wh := List.take_of_length_le (by omega)
   have hj' : j = wh.length := by omega
   subst hj'
   rw [ej]
   repeat' ((conv => whnf); first
   | refine Yz ?_)
   refine LoopW.to (LoopW.up g (fun i => [(2, .ptr ⟨0, 2, 1⟩ 0 0), (3, .ptr ⟨0, 3, 1⟩ 0 0), (6, .ptr ⟨0, 6, 2⟩ 0 0), (19, LC p.cl), (20, I p.cl.length), (21, I k), (43, LK ky), (44, I ky.length), (45, I i)])
    (fun i => [(⟨0, 1, 0⟩, .cells ty_turnroundref05_Program [.d (.list p.cl.length (p.cl.flatMap Cls.cells)), .d (DI p.po), .d (DI p.of), .d (DI p.fo)]), (⟨0, 2, 0⟩, .row false ty_priority_Class 3 0 []), (⟨0, 2, 1⟩, .cells ty_priority_Program [.ref ⟨0, 2, 0⟩ 0 0 0, .d (DI 0), .d (DI 0), .d (DI 0)]), (⟨0, 17, 0⟩, .row false ty_priority_Class 3 k ((p.cl.take k).flatMap Cls.cells)), (⟨0, 3, 0⟩, .row false ty_priority_Class 3 0 []), (⟨0, 3, 1⟩, .cells ty_priority_Program [.ref ⟨0, 17, 0⟩ 0 k k, .d (DI p.po), .d (DI p.of), .d (DI p.fo)]), (⟨0, 5, 0⟩, .cells ty_turnroundref05_Class [.d (.str nm), .d (.list wh.length (wh.flatMap Tst.cells)), .d (.list ky.length (ky.flatMap Kyt.cells))]), (⟨0, 27, 0⟩, .row false ty_priority_Test 3 wh.length (wh.flatMap Tst.cells)), (⟨0, 27, 1⟩, .row false ty_priority_Key 2 i ((ky.take i).flatMap Kyt.cells)), (⟨0, 6, 0⟩, .row false ty_priority_Test 3 0 []), (⟨0, 6, 1⟩, .row false ty_priority_Key 2 0 []), (⟨0, 6, 2⟩, .cells ty_priority_Class [.d (.str nm), .ref ⟨0, 27, 0⟩ 0 wh.length wh.length, .ref ⟨0, 27, 1⟩ 0 i i])])
    ky.length (fun i hi ik => ?_) 0 (Nat.zero_le _)) rfl rfl
   have hfk := fl_len Kyt.cells 2 Kyt.cells_length hi
   by_cases hil : i < ky.length
   ·have ik := ik hil
    rw [fl_succ Kyt.cells hil] at ik
    repeat' ((conv => whnf); first
    | refine Yz ?_
     | (refine PickW.rec Kyt.cells_length i rfl hil ?_)
     | (refine Need.mk (by simp only [List.length_cons, List.length_nil]; omega) ?_)
     | (refine LoopW.to ik rfl rfl))
   ·have ei : ky.take i = ky := List.take_of_length_le (by omega)
    have hi' : i = ky.length := by omega
    subst hi'
    rw [ei]
    repeat' ((conv => whnf); first
    | refine Yz ?_
     | (refine Need.mk (by simp only [List.length_cons, List.length_nil]; omega) ?_)
     | (refine LoopW.to ih rfl ?_))
    rw [if_pos ⟨rfl, rfl⟩, if_pos ⟨rfl, rfl⟩]
    rfl
 ·have ek : p.cl.take k = p.cl := List.take_of_length_le (by omega)
  have hk' : k = p.cl.length := by omega
  subst hk'
  rw [ek]
  repeat' ((conv => whnf); first
  | refine Yz ?_
   | (refine Need.mk ⟨rfl, by simp⟩ ?_)
   | (refine Ret.mk ?_))
  refine congrArg (fun x => V.d (.agg [.list p.cl.length x, DI p.po, DI p.of, DI p.fo])) (?_ : _ = p.cl.flatMap Cls.cells)
  exact if_pos ⟨rfl, rfl⟩
end
end Go.Proofs.YthmfkkpmjcbgeaaGreatDoor.Co
