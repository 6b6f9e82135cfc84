/-
  OfficeLogs returns true, for every argument: the law, and the last part of what it leans on.
-/
import Derived.Laws.RangeAny
import Derived.Lib.SplitLaws
import Derived.Test.YtcbddkeiohdocaaGreatDoorAwR
import Derived.Test.YtcbddkeiohdocaaGreatDoorEvX
import Derived.Test.YtcbddkeiohdocaaGreatDoorRead
import Derived.Test.YtcbddkeiohdocaaGreatDoorSpBase
/-
 Periods: errors, masks, moves: what the program's functions and the reference's give.
-/
namespace Go.Proofs.YtcbddkeiohdocaaGreatDoor.Co
open Go Go.Evl
def rng (n a b : Int) : Int := if n < a ∨ b < n then 3 else 0
def firstI : List Int → Int
 | [] => 0
 | x :: r => if x = 0 then firstI r else x
theorem firstI_zero : ∀ l : List Int, firstI l = 0 ↔ ∀ x ∈ l, x = 0
 | [] => by simp [firstI]
 | x :: r => by
  simp only [firstI, List.mem_cons, forall_eq_or_imp]
  split
  ·rename_i h; rw [firstI_zero r]; exact ⟨fun hr => ⟨h, hr⟩, fun hr => hr.2⟩
  ·rename_i h; exact ⟨fun hr => absurd hr h, fun hr => absurd hr.1 h⟩
section
variable {E : Oracle} (g : Good E)
include g
omit g in
theorem firstI_drop (l : List Int) (k : Nat) (h : k < l.length) : firstI (l.drop k) = if l.getD k 0 = 0 then firstI (l.drop (k + 1)) else l.getD k 0 := by
 rw [List.drop_eq_getElem_cons h]
 simp [firstI, List.getD, h]
end
end Go.Proofs.YtcbddkeiohdocaaGreatDoor.Co
/-
 Names: what both IsName give.
-/
namespace Go.Proofs.YtcbddkeiohdocaaGreatDoor.Co
open Go Go.Evl
theorem PickB.at {s : List UInt8} {i : Nat} {K : UInt8 → Prop} (k : Nat) (hi : i = k) (h : k < s.length) (hk : K (s.getD k 0)) : PickB s i K := by
 subst hi
 exact ⟨⟨_, by simp [List.getD, h], hk⟩⟩
theorem NextW.asc {s : List UInt8} {k : Nat} {a : Int → Nat → Prop} {b : Prop} (h : k < s.length) (ha : (s.getD k 0).toNat < 128) (hk : a (s.getD k 0).toNat 1) : NextW s k a b := by
 refine ⟨fun _ => ?_, fun hn => absurd h hn⟩
 have e : (s.getD k 0) = s[k] := by simp [List.getD, h]
 have hd := decode_ascii ⟨s.toArray⟩ k (by simpa [ByteArray.size] using h) (by rw [e] at ha; exact ha)
 rw [hd]
 rw [e] at hk
 exact hk
theorem NextW.high {s : List UInt8} {k : Nat} {a : Int → Nat → Prop} {b : Prop} (h : k < s.length) (ha : 128 ≤ (s.getD k 0).toNat) (hk : ∀ (c : Int) (w : Nat), 128 ≤ c → 1 ≤ w → a c w) : NextW s k a b := by
 refine ⟨fun _ => ?_, fun hn => absurd h hn⟩
 have e : (s.getD k 0) = s[k] := by simp [List.getD, h]
 have hd := decode_high ⟨s.toArray⟩ k (by simpa [ByteArray.size] using h) (by rw [e] at ha; exact ha)
 exact hk _ _ (by omega) hd.2
theorem NextW.end' {s : List UInt8} {k : Nat} {a : Int → Nat → Prop} {b : Prop} (h : s.length ≤ k) (hk : b) : NextW s k a b := ⟨fun hn => absurd hn (by omega), fun _ => hk⟩
def okCh (k : Nat) (b : UInt8) : Prop := (65 ≤ b.toNat ∧ b.toNat ≤ 90) ∨ (97 ≤ b.toNat ∧ b.toNat ≤ 122) ∨ (0 < k ∧ (b.toNat = 95 ∨ (48 ≤ b.toNat ∧ b.toNat ≤ 57)))
instance (k : Nat) (b : UInt8) : Decidable (okCh k b) := by unfold okCh; infer_instance
def nameP (s : List UInt8) : Prop := 0 < s.length ∧ s.length ≤ 24 ∧ ∀ i, i < s.length → okCh i (s.getD i 0)
instance (s : List UInt8) : Decidable (nameP s) := by unfold nameP; infer_instance
def isNameB (s : List UInt8) : Bool := decide (nameP s)
theorem isName_no {s : List UInt8} {k : Nat} (hk : k < s.length) (h : ¬ okCh k (s.getD k 0)) : isNameB s = false := decide_eq_false fun hn => h (hn.2.2 k hk)
section
variable {E : Oracle} (g : Good E)
include g
theorem s_IsName (s : List UInt8) : Fc E n_calendar_IsName [S s] (B (isNameB s)) := by
 refine g.fn rfl rfl ?_
 by_cases h0 : 0 < s.length ∧ s.length ≤ 24
 ·repeat' ((conv => whnf); first
 | refine Yz ?_)
  refine LoopW.to (LoopW.upP g (fun _ => [(15, .it ⟨0, 15, 0⟩)]) (fun k => [(⟨0, 15, 0⟩, .iter s k)]) (fun k => ∀ i, i < k → okCh i (s.getD i 0)) s.length (fun k hk hp ih => ?_) 0 (Nat.zero_le _) (fun i hi => by omega)) rfl rfl
  by_cases hlt : k < s.length
  ·by_cases ha : (s.getD k 0).toNat < 128
   ·by_cases hok : okCh k (s.getD k 0)
    ·have hp' : ∀ i, i < k + 1 → okCh i (s.getD i 0) := fun i hi => by
      by_cases e : i = k
      ·subst e; exact hok
      ·exact hp i (by omega)
     have ih := ih hlt hp'
     unfold okCh at hok
     repeat' ((conv => whnf); first
     | refine Yz ?_
      | (refine NextW.asc hlt ha ?_)
      | (refine Cmp.mk (fun h => ?_) (fun h => ?_)) | (refine Rem.any (by omega) (fun r hr he => ?_)) | (refine Br.mk (fun h => ?_) (fun h => ?_))
      | (refine LoopW.to ih rfl rfl)
      | (exfalso; omega))
    ·have hno := isName_no hlt hok
     unfold okCh at hok
     rw [hno]
     repeat' ((conv => whnf); first
     | refine Yz ?_
      | (refine NextW.asc hlt ha ?_)
      | (refine Cmp.mk (fun h => ?_) (fun h => ?_)) | (refine Rem.any (by omega) (fun r hr he => ?_)) | (refine Br.mk (fun h => ?_) (fun h => ?_))
      | (refine Ret.mk rfl)
      | (exfalso; omega))
   ·have hno : isNameB s = false := isName_no hlt (by unfold okCh; omega)
    rw [hno]
    repeat' ((conv => whnf); first
    | refine Yz ?_
     | (refine NextW.high hlt (by omega) (fun c w hc hw => ?_))
     | (refine Cmp.mk (fun h => ?_) (fun h => ?_)) | (refine Rem.any (by omega) (fun r hr he => ?_)) | (refine Br.mk (fun h => ?_) (fun h => ?_))
     | (refine Ret.mk rfl)
     | (exfalso; omega))
  ·have hk' : k = s.length := by omega
   subst hk'
   have hyes : isNameB s = true := decide_eq_true ⟨h0.1, h0.2, hp⟩
   rw [hyes]
   repeat' ((conv => whnf); first
   | refine Yz ?_
    | (refine NextW.end' (Nat.le_refl _) ?_)
    | (refine Ret.mk rfl))
 ·have hno : isNameB s = false := decide_eq_false fun hn => h0 ⟨hn.1, hn.2.1⟩
  rw [hno]
  repeat' ((conv => whnf); first
  | refine Yz ?_
   | (refine Cmp.mk (fun h => ?_) (fun h => ?_)) | (refine Rem.any (by omega) (fun r hr he => ?_)) | (refine Br.mk (fun h => ?_) (fun h => ?_))
   | (refine Ret.mk rfl)
   | (exfalso; omega))
theorem r_IsName (s : List UInt8) : Fc E n_ref01_IsName [S s] (B (isNameB s)) := by
 refine g.fn rfl rfl ?_
 by_cases h0 : 0 < s.length ∧ s.length ≤ 24
 ·repeat' ((conv => whnf); first
 | refine Yz ?_)
  refine LoopW.to (LoopW.upP g (fun k => [(0, S s), (3, I k)]) (fun _ => []) (fun k => ∀ i, i < k → okCh i (s.getD i 0)) s.length (fun k hk hp ih => ?_) 0 (Nat.zero_le _) (fun i hi => by omega)) rfl rfl
  by_cases hlt : k < s.length
  ·by_cases hok : okCh k (s.getD k 0)
   ·have hp' : ∀ i, i < k + 1 → okCh i (s.getD i 0) := fun i hi => by
     by_cases e : i = k
     ·subst e; exact hok
     ·exact hp i (by omega)
    have ih := ih hlt hp'
    unfold okCh at hok
    repeat' ((conv => whnf); first
    | refine Yz ?_
     | (refine PickB.at k (by omega) hlt ?_)
     | (refine Cmp.mk (fun h => ?_) (fun h => ?_)) | (refine Rem.any (by omega) (fun r hr he => ?_)) | (refine Br.mk (fun h => ?_) (fun h => ?_))
     | (refine LoopW.to ih rfl rfl)
     | (exfalso; omega))
   ·have hno := isName_no hlt hok
    unfold okCh at hok
    rw [hno]
    repeat' ((conv => whnf); first
    | refine Yz ?_
     | (refine PickB.at k (by omega) hlt ?_)
     | (refine Cmp.mk (fun h => ?_) (fun h => ?_)) | (refine Rem.any (by omega) (fun r hr he => ?_)) | (refine Br.mk (fun h => ?_) (fun h => ?_))
     | (refine Ret.mk rfl)
     | (exfalso; omega))
  ·have hk' : k = s.length := by omega
   subst hk'
   have hyes : isNameB s = true := decide_eq_true ⟨h0.1, h0.2, hp⟩
   rw [hyes]
   repeat' ((conv => whnf); first
   | refine Yz ?_
    | (refine Ret.mk rfl))
 ·have hno : isNameB s = false := decide_eq_false fun hn => h0 ⟨hn.1, hn.2.1⟩
  rw [hno]
  repeat' ((conv => whnf); first
  | refine Yz ?_
   | (refine Cmp.mk (fun h => ?_) (fun h => ?_)) | (refine Rem.any (by omega) (fun r hr he => ?_)) | (refine Br.mk (fun h => ?_) (fun h => ?_))
   | (refine Ret.mk rfl)
   | (exfalso; omega))
end
end Go.Proofs.YtcbddkeiohdocaaGreatDoor.Co
/-
 Events of the office's journal: their form, and what both CheckEvent give.
-/
namespace Go.Proofs.YtcbddkeiohdocaaGreatDoor.Co
open Go Go.Evl
structure Evt where
 nu : Int
 ki : List UInt8
 ns : List (List UInt8)
 vs : List Int
 tx : List UInt8
 deriving DecidableEq
abbrev Ws (l : List (List UInt8)) : V := .d (.list l.length (l.map D.str))
def Evt.cells (e : Evt) : List D := [DI e.nu, .str e.ki, .list e.ns.length (e.ns.map D.str), .list e.vs.length (e.vs.map DI), .str e.tx]
abbrev Evv (e : Evt) : V := .d (.agg e.cells)
abbrev kEnter : List UInt8 := [101, 110, 116, 101, 114]
abbrev kRule : List UInt8 := [114, 117, 108, 101]
abbrev kFollow : List UInt8 := [102, 111, 108, 108, 111, 119]
abbrev kReverse : List UInt8 := [114, 101, 118, 101, 114, 115, 101]
abbrev kComplain : List UInt8 := [99, 111, 109, 112, 108, 97, 105, 110]
abbrev kDecide : List UInt8 := [100, 101, 99, 105, 100, 101]
def formN (k : List UInt8) : Nat := if k = kEnter then 2 else if k = kRule then 2 else if k = kFollow then 3 else if k = kReverse then 1 else if k = kComplain then 2 else if k = kDecide then 1 else 0
def formV (k : List UInt8) : Nat := if k = kEnter then 4 else if k = kRule then 4 else if k = kFollow then 4 else if k = kReverse then 1 else if k = kComplain then 1 else if k = kDecide then 2 else 0
def isKind (k : List UInt8) : Bool := decide (k = kEnter) || decide (k = kRule) || decide (k = kFollow) || decide (k = kReverse) || decide (k = kComplain) || decide (k = kDecide)
theorem kind_cases (k : List UInt8) : k = kEnter ∨ k = kRule ∨ k = kFollow ∨ k = kReverse ∨ k = kComplain ∨ k = kDecide ∨
  (k ≠ kEnter ∧ k ≠ kRule ∧ k ≠ kFollow ∧ k ≠ kReverse ∧ k ≠ kComplain ∧ k ≠ kDecide) := by
 by_cases h1 : k = kEnter
 ·exact .inl h1
 by_cases h2 : k = kRule
 ·exact .inr (.inl h2)
 by_cases h3 : k = kFollow
 ·exact .inr (.inr (.inl h3))
 by_cases h4 : k = kReverse
 ·exact .inr (.inr (.inr (.inl h4)))
 by_cases h5 : k = kComplain
 ·exact .inr (.inr (.inr (.inr (.inl h5))))
 by_cases h6 : k = kDecide
 ·exact .inr (.inr (.inr (.inr (.inr (.inl h6)))))
 exact .inr (.inr (.inr (.inr (.inr (.inr ⟨h1, h2, h3, h4, h5, h6⟩)))))
def nameless (l : List (List UInt8)) : Bool := l.any fun s => !isNameB s
def farV (n : Int) : Bool := decide (n < 0 ∨ 999999999 < n)
def far (l : List Int) : Bool := l.any farV
def chkE (e : Evt) : Int :=
 firstI [rng e.nu 1 1000, if !isKind e.ki then 13 else 0, if e.ns.length ≠ formN e.ki ∨ e.vs.length ≠ formV e.ki then 2 else 0, if nameless e.ns then 8 else 0, if far e.vs then 3 else 0, if e.tx ≠ [] then 1 else 0]
def idxI {α : Type} (p : α → Bool) (l : List α) : Int := match l.findIdx? p with
 | some i => i
 | none => -1
theorem idxI_at {α : Type} {p : α → Bool} {l : List α} {k : Nat} (hk : k < l.length) (h : p l[k] = true) (hn : ∀ j, (hj : j < k) → p (l[j]'(by omega)) = false) : idxI p l = k := by
 have : l.findIdx? p = some k := List.findIdx?_eq_some_iff_getElem.2 ⟨hk, h, fun j hj => by simp [hn j hj]⟩
 simp [idxI, this]
theorem idxI_none {α : Type} {p : α → Bool} {l : List α} (hn : ∀ j, (hj : j < l.length) → p l[j] = false) : idxI p l = -1 := by
 have : l.findIdx? p = none := List.findIdx?_eq_none_iff.2 fun x hx => by
  obtain ⟨j, hj, rfl⟩ := List.mem_iff_getElem.1 hx
  exact hn j hj
 simp [idxI, this]
theorem idxI_any {α : Type} (p : α → Bool) (l : List α) : decide (0 ≤ idxI p l) = l.any p := by
 unfold idxI
 cases h : l.findIdx? p with
 | none =>
  have h2 : l.any p = false := by
   rw [List.any_eq_false]
   intro x hx
   have := List.findIdx?_eq_none_iff.1 h x hx
   simp [this]
  rw [h2]; rfl
 | some i =>
  obtain ⟨hi, hp, _⟩ := List.findIdx?_eq_some_iff_getElem.1 h
  have h2 : l.any p = true := List.any_eq_true.2 ⟨l[i], List.getElem_mem hi, hp⟩
  rw [h2]; simp
theorem Pick.ws {l : List (List UInt8)} {i : Int} {K : D → Prop} (k : Nat) (hi : i = k) (h : k < l.length) (hk : K (.str l[k])) : Pick (l.map D.str) (i.toNat * 1) K := by
 subst hi
 exact ⟨⟨_, by simp [h], hk⟩⟩
theorem Pick.iw {l : List Int} {i : Int} {K : D → Prop} (k : Nat) (hi : i = k) (h : k < l.length) (hk : K (DI l[k])) : Pick (l.map DI) (i.toNat * 1) K := by
 subst hi
 exact ⟨⟨_, by simp [h], hk⟩⟩
section
variable {E : Oracle} (g : Good E)
include g
set_option maxRecDepth 100000
theorem s_owhen (b : Bool) (e : Int) : Fc E n_office_when [B b, I e] (I (if b then e else 0)) := by
 refine g.fn rfl rfl ?_
 cases b
 all_goals repeat' ((conv => whnf); first
 | refine Yz ?_
  | (refine Ret.mk rfl))
theorem s_owithin (n a b : Int) : Fc E n_office_within [I n, I a, I b] (I (rng n a b)) := by
 refine g.fn rfl rfl ?_
 repeat' ((conv => whnf); first
 | refine Yz ?_
  | (refine Cmp.mk (fun h => ?_) (fun h => ?_)) | (refine Rem.any (by omega) (fun r hr he => ?_)) | (refine Br.mk (fun h => ?_) (fun h => ?_))
  | (refine CallI.of (s_owhen g _ _) ?_)
  | (refine Ret.mk ?_))
 all_goals (simp only [V.d.injEq, D.int.injEq, true_and, rng]; simp_all)
theorem s_ofirst (l : List Int) (hl : l.length ≤ 140737488355328) : Fc E n_office_first [LI l] (I (firstI l)) := by
 refine g.fn rfl rfl ?_
 conv => whnf
 refine LoopW.upP g (fun k => [(5, LI l), (6, I l.length), (7, I k)]) (fun _ => []) (fun k => firstI l = firstI (l.drop k)) l.length (fun k hk hp ih => ?_) 0 (Nat.zero_le _) (by simp)
 by_cases hlt : k < l.length
 ·have hd := firstI_drop l k hlt
  repeat' ((conv => whnf); first
  | refine Yz ?_
   | (refine Pick.int (by omega) ?_)
   | (refine Cmp.mk (fun h => ?_) (fun h => ?_)) | (refine Rem.any (by omega) (fun r hr he => ?_)) | (refine Br.mk (fun h => ?_) (fun h => ?_))
   | (refine LoopW.to (ih hlt ?_) ?_ rfl)
   | (refine Ret.mk ?_))
  all_goals simp_all
 ·have : l.drop k = [] := List.drop_eq_nil_of_le (by omega)
  repeat' ((conv => whnf); first
  | refine Yz ?_
   | (refine Ret.mk ?_))
  simp [hp, this, firstI]
theorem s_onamed (s : List UInt8) : Fc E n_office_named [S s] (I (if !isNameB s then 8 else 0)) := by
 refine g.fn rfl rfl ?_
 have h := s_IsName g s
 repeat' ((conv => whnf); first
 | refine Yz ?_
  | (apply CallI.of; assumption)
  | (refine CallI.of (s_owhen g _ _) ?_)
  | (refine Ret.mk rfl))
theorem s_IndexFuncS {f : Nat} {p : List UInt8 → Bool} {l : List (List UInt8)} (hl : l.length ≤ 1000000) (hf : ∀ x ∈ l, Fc E f [S x] (B (p x))) : Fc E n_slices_IndexFunc_Lstring_string [Ws l, .d (.fn f)] (I (idxI p l)) := by
 refine g.fn rfl rfl ?_
 conv => whnf
 refine LoopW.upP g (fun k => [(0, Ws l), (1, .d (.fn f)), (7, I l.length), (8, I k)]) (fun _ => []) (fun k => ∀ j, (hj : j < k) → (hj' : j < l.length) → p l[j] = false) l.length (fun k hk hp ih => ?_) 0 (Nat.zero_le _) (fun j hj => by omega)
 by_cases hlt : k < l.length
 ·have hx := hf l[k] (List.getElem_mem hlt)
  cases hb : p l[k] with
  | true =>
   rw [hb] at hx
   have hi := idxI_at (p := p) hlt hb fun j hj => hp j hj (by omega)
   rw [hi]
   repeat' ((conv => whnf); first
   | refine Yz ?_
    | (refine Pick.ws k rfl hlt ?_)
    | (apply CallI.of; assumption)
    | (refine Ret.mk rfl))
  | false =>
   rw [hb] at hx
   have ih := ih hlt fun j hj hj' => by
    by_cases e : j = k
    ·subst e; exact hb
    ·exact hp j (by omega) hj'
   repeat' ((conv => whnf); first
   | refine Yz ?_
    | (refine Pick.ws k rfl hlt ?_)
    | (apply CallI.of; assumption)
    | (refine LoopW.to ih rfl rfl))
 ·have hi := idxI_none (p := p) (l := l) fun j hj => hp j (by omega) hj
  rw [hi]
  repeat' ((conv => whnf); first
  | refine Yz ?_
   | (refine Ret.mk rfl))
theorem s_ContainsFuncS {f : Nat} {p : List UInt8 → Bool} {l : List (List UInt8)} (hl : l.length ≤ 1000000) (hf : ∀ x ∈ l, Fc E f [S x] (B (p x))) : Fc E n_slices_ContainsFunc_Lstring_string [Ws l, .d (.fn f)] (B (l.any p)) := by
 refine g.fn rfl rfl ?_
 have h := s_IndexFuncS g hl hf
 rw [← idxI_any]
 repeat' ((conv => whnf); first
 | refine Yz ?_
  | (apply CallI.of; assumption)
  | (refine Cmp.mk (fun h => ?_) (fun h => ?_)) | (refine Rem.any (by omega) (fun r hr he => ?_)) | (refine Br.mk (fun h => ?_) (fun h => ?_))
  | (refine Ret.mk ?_))
 all_goals simp_all
theorem s_IndexFuncI {f : Nat} {p : Int → Bool} {l : List Int} (hl : l.length ≤ 1000000) (hf : ∀ x ∈ l, Fc E f [I x] (B (p x))) : Fc E n_slices_IndexFunc_Lint_int [LI l, .d (.fn f)] (I (idxI p l)) := by
 refine g.fn rfl rfl ?_
 conv => whnf
 refine LoopW.upP g (fun k => [(0, LI l), (1, .d (.fn f)), (7, I l.length), (8, I k)]) (fun _ => []) (fun k => ∀ j, (hj : j < k) → (hj' : j < l.length) → p l[j] = false) l.length (fun k hk hp ih => ?_) 0 (Nat.zero_le _) (fun j hj => by omega)
 by_cases hlt : k < l.length
 ·have hx := hf l[k] (List.getElem_mem hlt)
  cases hb : p l[k] with
  | true =>
   rw [hb] at hx
   have hi := idxI_at (p := p) hlt hb fun j hj => hp j hj (by omega)
   rw [hi]
   repeat' ((conv => whnf); first
   | refine Yz ?_
    | (refine Pick.iw k rfl hlt ?_)
    | (apply CallI.of; assumption)
    | (refine Ret.mk rfl))
  | false =>
   rw [hb] at hx
   have ih := ih hlt fun j hj hj' => by
    by_cases e : j = k
    ·subst e; exact hb
    ·exact hp j (by omega) hj'
   repeat' ((conv => whnf); first
   | refine Yz ?_
    | (refine Pick.iw k rfl hlt ?_)
    | (apply CallI.of; assumption)
    | (refine LoopW.to ih rfl rfl))
 ·have hi := idxI_none (p := p) (l := l) fun j hj => hp j (by omega) hj
  rw [hi]
  repeat' ((conv => whnf); first
  | refine Yz ?_
   | (refine Ret.mk rfl))
theorem s_ContainsFuncI {f : Nat} {p : Int → Bool} {l : List Int} (hl : l.length ≤ 1000000) (hf : ∀ x ∈ l, Fc E f [I x] (B (p x))) : Fc E n_slices_ContainsFunc_Lint_int [LI l, .d (.fn f)] (B (l.any p)) := by
 refine g.fn rfl rfl ?_
 have h := s_IndexFuncI g hl hf
 rw [← idxI_any]
 repeat' ((conv => whnf); first
 | refine Yz ?_
  | (apply CallI.of; assumption)
  | (refine Cmp.mk (fun h => ?_) (fun h => ?_)) | (refine Rem.any (by omega) (fun r hr he => ?_)) | (refine Br.mk (fun h => ?_) (fun h => ?_))
  | (refine Ret.mk ?_))
 all_goals simp_all
theorem s_ce1 (s : List UInt8) : Fc E n_office_CheckEvent_1 [S s] (B (!isNameB s)) := by
 refine g.fn rfl rfl ?_
 have h := s_onamed g s
 cases hb : isNameB s
 all_goals
  rw [hb] at h
  repeat' ((conv => whnf); first
  | refine Yz ?_
   | (apply CallI.of; assumption)
   | (refine Ret.mk rfl))
theorem s_ce2 (n : Int) : Fc E n_office_CheckEvent_2 [I n] (B (farV n)) := by
 refine g.fn rfl rfl ?_
 have h := s_owithin g n 0 999999999
 by_cases hb : n < 0 ∨ 999999999 < n
 all_goals
  simp only [rng, hb, if_true, if_false] at h
  simp only [farV, hb, decide_true, decide_false]
  repeat' ((conv => whnf); first
  | refine Yz ?_
   | (apply CallI.of; assumption)
   | (refine Ret.mk rfl))
abbrev kdM : List (D × V) := [(.str kEnter, .agg [.d (DI 2), .d (DI 4), .fn n_office_Register_asksEntry [] [], .fn n_office_Register_doesEntry [] []]),
 (.str kRule, .agg [.d (DI 2), .d (DI 4), .fn n_office_Register_asksEntry [] [], .fn n_office_Register_doesEntry [] []]),
 (.str kFollow, .agg [.d (DI 3), .d (DI 4), .fn n_office_Register_asksEntry [] [], .fn n_office_Register_doesEntry [] []]),
 (.str kReverse, .agg [.d (DI 1), .d (DI 1), .fn n_office_Register_asksReverse [] [], .fn n_office_kinds_1 [] []]),
 (.str kComplain, .agg [.d (DI 2), .d (DI 1), .fn n_office_Register_asksComplaint [] [], .fn n_office_Register_doesComplaint [] []]),
 (.str kDecide, .agg [.d (DI 1), .d (DI 2), .fn n_office_Register_asksDecision [] [], .fn n_office_Register_doesDecision [] []])]
omit g in
theorem kd_none {k : List UInt8} (h : k ≠ kEnter ∧ k ≠ kRule ∧ k ≠ kFollow ∧ k ≠ kReverse ∧ k ≠ kComplain ∧ k ≠ kDecide) : findE (.str k) kdM = some none := by
 have e : ∀ t, k ≠ t → (k == t) = false := fun t h => beq_eq_false_iff_ne.2 h
 obtain ⟨h1, h2, h3, h4, h5, h6⟩ := h
 simp only [findE, eqD, e _ h1, e _ h2, e _ h3, e _ h4, e _ h5, e _ h6]
theorem CallS.kinds {cx : Cx} {slot : Nat} {m : Mem} {K : V → Mem → Prop} (hf : Go.Evl.freeK cx.lv slot m = 0) (k : K (.mp ⟨cx.lv, slot, 0⟩) (m ++ [(⟨cx.lv, slot, 0⟩, .map kdM)])) : CallS E n_office_kinds [] cx slot m K := by
 refine ⟨.mp ⟨0, 1, 0⟩, [(⟨0, 1, 0⟩, .map kdM)], (.mp ⟨cx.lv, slot, 0⟩, m ++ [(⟨cx.lv, slot, 0⟩, .map kdM)]), g.lim.of_iter 1000 _ _ (by kernel_rfl), ?_, k⟩
 unfold Evl.settle
 rw [hf]
 rfl
set_option maxHeartbeats 4000000 in
theorem s_CheckEvent (e : Evt) (hn : e.ns.length ≤ 1000000) (hv : e.vs.length ≤ 1000000) : Fc E n_office_CheckEvent [Evv e] (I (chkE e)) := by
 obtain ⟨nu, ki, ns, vs, tx⟩ := e
 change Fc E n_office_CheckEvent [.d (.agg [DI nu, .str ki, .list ns.length (ns.map D.str), .list vs.length (vs.map DI), .str tx])] _
 dsimp only at hn hv
 refine g.fn rfl rfl ?_
 have h1 := s_ContainsFuncS g (f := n_office_CheckEvent_1) (p := fun s => !isNameB s) hn fun x _ => s_ce1 g x
 have h2 := s_ContainsFuncI g (f := n_office_CheckEvent_2) (p := farV) hv fun x _ => s_ce2 g x
 have h3 := s_owithin g nu 1 1000
 have hlast : ∀ a b c d e f : Int, Fc E n_office_first [.d (.list 6 [DI a, DI b, DI c, DI d, DI e, DI f])] (I (firstI [a, b, c, d, e, f])) := fun a b c d e f => s_ofirst g [a, b, c, d, e, f] (by simp)
 rcases kind_cases ki with rfl | rfl | rfl | rfl | rfl | rfl | hk
 all_goals
  first
  | (have hfind := kd_none hk)
  | (have hfind : True := trivial)
  repeat' ((conv => whnf); first
  | refine Yz ?_
   | (refine CallS.kinds g rfl ?_)
   | (refine Find.mk ⟨_, rfl, ?_⟩)
   | (refine Find.mk ⟨_, hfind, ?_⟩)
   | (apply CallI.of; assumption)
   | (refine CallI.of (s_owhen g _ _) ?_)
   | (refine CallI.of (hlast _ _ _ _ _ _) ?_)
   | (refine Cmp.mk (fun h => ?_) (fun h => ?_)) | (refine Rem.any (by omega) (fun r hr he => ?_)) | (refine Br.mk (fun h => ?_) (fun h => ?_))
   | (refine Ret.mk ?_))
  all_goals try norm_cast at *
  all_goals (simp_all [chkE, isKind, formN, formV, nameless, far]; done)
theorem r_Outside (n a b : Int) : Fc E n_ref10_Outside [I n, I a, I b] (B (decide (n < a ∨ b < n))) := by
 refine g.fn rfl rfl ?_
 repeat' ((conv => whnf); first
 | refine Yz ?_
  | (refine Cmp.mk (fun h => ?_) (fun h => ?_)) | (refine Rem.any (by omega) (fun r hr he => ?_)) | (refine Br.mk (fun h => ?_) (fun h => ?_))
  | (refine Ret.mk ?_))
 all_goals simp_all
abbrev Frm (k : List UInt8) : V := .d (.agg [DI (formN k), DI (formV k), .bool (isKind k)])
theorem r_Form (k : List UInt8) : Fc E n_ref10_Form [S k] (Frm k) := by
 refine g.fn rfl rfl ?_
 rcases kind_cases k with rfl | rfl | rfl | rfl | rfl | rfl | ⟨h1, h2, h3, h4, h5, h6⟩
 all_goals
  repeat' ((conv => whnf); first
  | refine Yz ?_
   | (refine Cmp.ff (by assumption) ?_)
   | (refine Ret.mk ?_))
 all_goals first | rfl | simp [formN, formV, isKind, h1, h2, h3, h4, h5, h6]
set_option maxHeartbeats 4000000 in
theorem r_CheckEvent (e : Evt) (hn : e.ns.length ≤ 1000000) (hv : e.vs.length ≤ 1000000) : Fc E n_ref10_CheckEvent [Evv e] (I (chkE e)) := by
 obtain ⟨nu, ki, ns, vs, tx⟩ := e
 change Fc E n_ref10_CheckEvent [.d (.agg [DI nu, .str ki, .list ns.length (ns.map D.str), .list vs.length (vs.map DI), .str tx])] _
 dsimp only at hn hv
 refine g.fn rfl rfl ?_
 have h1 := r_Outside g nu 1 1000
 have h2 : Fc E n_ref10_Form [S ki] (.d (.agg [DI (formN ki), DI (formV ki), .bool (isKind ki)])) := r_Form g ki
 by_cases hnu : nu < 1 ∨ 1000 < nu
 ·rw [decide_eq_true hnu] at h1
  have hr : rng nu 1 1000 = 3 := if_pos hnu
  repeat' ((conv => whnf); first
  | refine Yz ?_
   | (apply CallI.of; assumption)
   | (refine Ret.mk ?_))
  simp [chkE, firstI, hr]
 rw [decide_eq_false hnu] at h1
 have hr : rng nu 1 1000 = 0 := if_neg hnu
 cases hk : isKind ki with
 | false =>
  rw [hk] at h2
  repeat' ((conv => whnf); first
  | refine Yz ?_
   | (apply CallI.of; assumption)
   | (refine Ret.mk ?_))
  simp [chkE, firstI, hr, hk]
 | true =>
  rw [hk] at h2
  by_cases hc : ns.length = formN ki ∧ vs.length = formV ki
  ·obtain ⟨hcn, hcv⟩ := hc
   repeat' ((conv => whnf); first
   | refine Yz ?_
    | (apply CallI.of; assumption))
   refine LoopW.to (LoopW.upP g (fun k => [(1, .ptr ⟨0, 1, 0⟩ 0 0), (3, .ptr ⟨0, 3, 0⟩ 0 0), (4, I k)]) (fun _ => _) (fun k => ∀ j, (hj : j < k) → (hj' : j < ns.length) → isNameB ns[j] = true) ns.length (fun k hkl hp ih => ?_) 0 (Nat.zero_le _) (fun j hj => by omega)) rfl rfl
   by_cases hlt : k < ns.length
   ·have hx := r_IsName g ns[k]
    cases hb : isNameB ns[k] with
    | true =>
     rw [hb] at hx
     have ih := ih hlt fun j hj hj' => by
      by_cases e : j = k
      ·subst e; exact hb
      ·exact hp j (by omega) hj'
     repeat' ((conv => whnf); first
     | refine Yz ?_
      | (refine Pick.ws k rfl hlt ?_)
      | (apply CallI.of; assumption)
      | (refine LoopW.to ih rfl rfl))
    | false =>
     rw [hb] at hx
     have hnl : nameless ns = true := List.any_eq_true.2 ⟨ns[k], List.getElem_mem hlt, by simp [hb]⟩
     repeat' ((conv => whnf); first
     | refine Yz ?_
      | (refine Pick.ws k rfl hlt ?_)
      | (apply CallI.of; assumption)
      | (refine Ret.mk ?_))
     simp [chkE, firstI, hr, hk, hcn, hcv, hnl]
   ·have hnl : nameless ns = false := by
     refine List.any_eq_false.2 fun x hx => ?_
     obtain ⟨j, hj, rfl⟩ := List.mem_iff_getElem.1 hx
     simp [hp j (by omega) hj]
    repeat' ((conv => whnf); first
    | refine Yz ?_)
    refine LoopW.to (LoopW.upP g (fun k => [(1, .ptr ⟨0, 1, 0⟩ 0 0), (3, .ptr ⟨0, 3, 0⟩ 0 0), (5, I k)]) (fun _ => _) (fun k => ∀ j, (hj : j < k) → (hj' : j < vs.length) → farV vs[j] = false) vs.length (fun k hk2 hp2 ih2 => ?_) 0 (Nat.zero_le _) (fun j hj => by omega)) rfl rfl
    by_cases hlt2 : k < vs.length
    ·have hx := r_Outside g vs[k] 0 999999999
     change Fc E n_ref10_Outside _ (B (farV vs[k])) at hx
     cases hb : farV vs[k] with
     | false =>
      rw [hb] at hx
      have ih2 := ih2 hlt2 fun j hj hj' => by
       by_cases e : j = k
       ·subst e; exact hb
       ·exact hp2 j (by omega) hj'
      repeat' ((conv => whnf); first
      | refine Yz ?_
       | (refine Pick.iw k rfl hlt2 ?_)
       | (apply CallI.of; assumption)
       | (refine LoopW.to ih2 rfl rfl))
     | true =>
      rw [hb] at hx
      have hfr : far vs = true := List.any_eq_true.2 ⟨vs[k], List.getElem_mem hlt2, hb⟩
      repeat' ((conv => whnf); first
      | refine Yz ?_
       | (refine Pick.iw k rfl hlt2 ?_)
       | (apply CallI.of; assumption)
       | (refine Ret.mk ?_))
      simp [chkE, firstI, hr, hk, hcn, hcv, hnl, hfr]
    ·have hfr : far vs = false := by
      refine List.any_eq_false.2 fun x hx => ?_
      obtain ⟨j, hj, rfl⟩ := List.mem_iff_getElem.1 hx
      simp [hp2 j (by omega) hj]
     by_cases htx : tx = []
     ·subst htx
      repeat' ((conv => whnf); first
      | refine Yz ?_
       | (refine Ret.mk ?_))
      simp [chkE, firstI, hr, hk, hcn, hcv, hnl, hfr]
     ·repeat' ((conv => whnf); first
     | refine Yz ?_
       | (refine Cmp.tt htx ?_)
       | (refine Cmp.ff htx ?_)
       | (refine Ret.mk ?_))
      simp [chkE, firstI, hr, hk, hcn, hcv, hnl, hfr, htx]
  ·have hc2 : ns.length ≠ formN ki ∨ vs.length ≠ formV ki := by omega
   repeat' ((conv => whnf); first
   | refine Yz ?_
    | (apply CallI.of; assumption)
    | (refine Cmp.mk (fun h => ?_) (fun h => ?_)) | (refine Rem.any (by omega) (fun r hr he => ?_)) | (refine Br.mk (fun h => ?_) (fun h => ?_))
    | (refine Ret.mk ?_))
   all_goals try norm_cast at *
   all_goals (simp_all [chkE, firstI]; done)
end
end Go.Proofs.YtcbddkeiohdocaaGreatDoor.Co
/-
 Digits: their bytes, numbers in so many digits; bytes that are added and taken away.
-/
namespace Go.Proofs.YtcbddkeiohdocaaGreatDoor.Co
open Go Go.Evl
def dig (n : Int) : UInt8 := UInt8.ofNat (48 + n.toNat)
def wideL : Nat → Int → List UInt8
 | 0, _ => []
 | k + 1, n => wideL k (n / 10) ++ [dig (n % 10)]
theorem wideL_length : ∀ (k : Nat) (n : Int), (wideL k n).length = k
 | 0, _ => rfl
 | k + 1, n => by simp [wideL, wideL_length k]
theorem Wr.keep8 {x : Int} {K : Int → Prop} (h : 0 ≤ x ∧ x ≤ 255) (k : K x) : Wr .u8 x K := ⟨by
 have : IntKind.u8.wrap x = x := by
  have hb : IntKind.u8.wrap x = x % 256 := by simp [IntKind.wrap, IntKind.signed, IntKind.bits]
  rw [hb]; omega
 rw [this]; exact k⟩
section
variable {E : Oracle} (g : Good E)
include g
theorem s_Itoa (n : Int) (h : 0 ≤ n ∧ n ≤ 9223372036854775807) : Fc E n_strconv_Itoa [I n] (S (digitsF 20 n.toNat)) :=
 Fc.extern g.lim (x := itoaX) rfl (v := S (digitsF 20 n.toNat)) (m' := []) (by simp only [itoaX]; rw [if_pos h]) rfl
theorem r_digit (n : Int) (h : 0 ≤ n ∧ n ≤ 9) : Fc E n_ref01_digit [I n] (S [dig n]) := by
 refine g.fn rfl rfl ?_
 have hc : n = 0 ∨ n = 1 ∨ n = 2 ∨ n = 3 ∨ n = 4 ∨ n = 5 ∨ n = 6 ∨ n = 7 ∨ n = 8 ∨ n = 9 := by omega
 rcases hc with rfl | rfl | rfl | rfl | rfl | rfl | rfl | rfl | rfl | rfl
 all_goals repeat' ((conv => whnf); first
 | refine Yz ?_
  | (refine Bounds.mk (by decide) ?_)
  | (refine Ret.mk rfl))
end
end Go.Proofs.YtcbddkeiohdocaaGreatDoor.Co
/-
 Messages: numbers of so many digits and minutes, printed and read.
-/
namespace Go.Proofs.YtcbddkeiohdocaaGreatDoor.Co
open Go Go.Evl
theorem wideL_zero : ∀ k : Nat, wideL k 0 = List.replicate k 48
 | 0 => rfl
 | k + 1 => by
  have : wideL (k + 1) 0 = wideL k 0 ++ [48] := rfl
  rw [this, wideL_zero k, ← List.replicate_succ']
theorem wideL_pad : ∀ (w f u : Nat), 1 ≤ w → w ≤ f → u < 10 ^ w → (digitsF f u).length ≤ w ∧ List.replicate (w - (digitsF f u).length) 48 ++ digitsF f u = wideL w u
 | 0, _, _, h, _, _ => absurd h (by omega)
 | _ + 1, 0, _, _, h, _ => absurd h (by omega)
 | w + 1, f + 1, u, _, hf, hu => by
  simp only [digitsF]
  split
  ·rename_i hlt
   refine ⟨by simp, ?_⟩
   have e1 : (u : Int) / 10 = 0 := by omega
   have e2 : (u : Int) % 10 = u := by omega
   simp only [wideL, e1, e2, wideL_zero]
   simp [dig]
  ·rename_i hge
   have hw : 1 ≤ w := by
    rcases Nat.eq_zero_or_pos w with h | h
    ·subst h; simp at hu; omega
    ·exact h
   rw [Nat.pow_succ] at hu
   obtain ⟨h1, h2⟩ := wideL_pad w f (u / 10) hw (by omega) (by omega)
   refine ⟨by simp; omega, ?_⟩
   have e1 : (u : Int) / 10 = ((u / 10 : Nat) : Int) := by omega
   have e2 : ((u : Int) % 10).toNat = u % 10 := by omega
   simp only [wideL, e1]
   rw [← h2]
   simp [dig, e2]
theorem toNat_u8 (b : UInt8) : b.toNat < 256 := b.toNat_lt
section
variable {E : Oracle} (g : Good E)
include g
omit g in
theorem repeatL_one : ∀ k : Nat, Lib.repeatL [48] k = List.replicate k (48 : UInt8)
 | 0 => rfl
 | k + 1 => by
  rw [List.replicate_succ, ← repeatL_one k]
  rfl
theorem r_Text : ∀ (f : Nat) (n : Int), f ≤ 16 → 0 ≤ n ∧ n < (10 ^ (f + 1) : Nat) → Fc E n_ref01_Text [I n] (S (digitsF (f + 1) n.toNat))
 | 0, n, _, h => by
  refine g.fn rfl rfl ?_
  have hd := r_digit g n (by omega)
  repeat' ((conv => whnf); first
  | refine Yz ?_
   | (apply CallI.of; assumption)
   | (refine Ret.mk ?_))
  simp only [digitsF]
  rw [if_pos (by omega)]
  rfl
 | f + 1, n, hf, h => by
  refine g.fn rfl rfl ?_
  rw [Nat.pow_succ] at h
  have hp : 10 ^ (f + 1) ≤ 10 ^ 17 := Nat.pow_le_pow_right (by omega) (by omega)
  by_cases hl : n < 10
  ·have hd := r_digit g n (by omega)
   repeat' ((conv => whnf); first
   | refine Yz ?_
    | (apply CallI.of; assumption)
    | (refine Ret.mk ?_))
   rw [digitsF, if_pos (by omega)]
   rfl
  ·have hd := r_digit g (n % 10) (by omega)
   have ih := r_Text f (n / 10) (by omega) (by omega)
   have hlen : ∀ (k u : Nat), (digitsF k u).length ≤ k := fun k => by
    induction k with
    | zero => intro u; simp [digitsF]
    | succ k ih =>
     intro u
     simp only [digitsF]
     split
     ·simp
     ·have := ih (u / 10); simp; omega
   have hl2 := hlen (f + 1) (n / 10).toNat
   repeat' ((conv => whnf); first
   | refine Yz ?_
    | (apply CallI.of; assumption)
    | (refine Need.mk (by simp only [maxStr, List.length_cons, List.length_nil]; omega) ?_)
    | (refine Ret.mk ?_))
   have e1 : (n / 10).toNat = n.toNat / 10 := by omega
   have e2 : (n % 10).toNat = n.toNat % 10 := by omega
   show S (digitsF (f + 1) (n / 10).toNat ++ [dig (n % 10)]) = S (if n.toNat < 10 then _ else digitsF (f + 1) (n.toNat / 10) ++ [UInt8.ofNat (48 + n.toNat % 10)])
   rw [if_neg (by omega), dig, e1, e2]
end
end Go.Proofs.YtcbddkeiohdocaaGreatDoor.Co
/-
 Digits of numbers, plain.
-/
namespace Go.Proofs.YtcbddkeiohdocaaGreatDoor.Co
open Go Go.Evl
def decL (n : Int) : List UInt8 := digitsF 20 n.toNat
theorem digitsF_len : ∀ (k u : Nat), (digitsF k u).length ≤ k
 | 0, _ => Nat.le_refl 0
 | k + 1, u => by
  unfold digitsF
  split
  ·simp
  ·have := digitsF_len k (u / 10)
   simp only [List.length_append, List.length_cons, List.length_nil]
   omega
theorem decL_len (n : Int) : (decL n).length ≤ 20 := digitsF_len 20 _
theorem digitsF_same : ∀ (f k u : Nat), u < 10 ^ (f + 1) → u < 10 ^ (k + 1) → digitsF (f + 1) u = digitsF (k + 1) u
 | f, k, u, h1, h2 => by
  rw [digitsF, digitsF]
  split
  ·rfl
  ·rename_i hu
   cases f with
   | zero => simp at h1; omega
   | succ f =>
    cases k with
    | zero => simp at h2; omega
    | succ k =>
     rw [digitsF_same f k (u / 10) (by rw [Nat.pow_succ] at h1; omega) (by rw [Nat.pow_succ] at h2; omega)]
end Go.Proofs.YtcbddkeiohdocaaGreatDoor.Co
/-
 Decimal numbers of at most nine digits without leading zeros: what a text says, and the text.
-/
namespace Go.Proofs.YtcbddkeiohdocaaGreatDoor.Co
open Go Go.Evl
def numD (s : List UInt8) : Option Nat := if s.length = 0 ∨ 9 < s.length ∨ (1 < s.length ∧ s.head? = some 48) then none else Lib.decFrom 0 s
theorem dF_app (c : UInt8) : ∀ (s : List UInt8) (a : Nat), Lib.decFrom a (s ++ [c]) = (Lib.decFrom a s).bind fun m => (Lib.digitVal c).map fun d => m * 10 + d
 | [], a => by
  simp only [List.nil_append, Lib.decFrom]
  cases Lib.digitVal c <;> rfl
 | x :: r, a => by
  simp only [List.cons_append, Lib.decFrom]
  cases Lib.digitVal x with
  | none => rfl
  | some d => exact dF_app c r _
theorem dF_ge : ∀ (s : List UInt8) (a n : Nat), Lib.decFrom a s = some n → a ≤ n
 | [], a, n, h => by simp only [Lib.decFrom, Option.some.injEq] at h; omega
 | x :: r, a, n, h => by
  simp only [Lib.decFrom] at h
  cases hd : Lib.digitVal x with
  | none => rw [hd] at h; cases h
  | some d =>
   rw [hd] at h
   have := dF_ge r _ n h
   omega
theorem dv_of {c : UInt8} {d : Nat} (h : Lib.digitVal c = some d) : d ≤ 9 ∧ c = UInt8.ofNat (48 + d) ∧ c.toNat = 48 + d := by
 unfold Lib.digitVal at h
 split at h
 ·rename_i hc
  simp only [Option.some.injEq] at h
  have e : 48 + d = c.toNat := by omega
  refine ⟨by omega, ?_, e.symm⟩
  rw [e]
  exact (UInt8.ofNat_toNat).symm
 ·cases h
theorem dv_ofNat {d : Nat} (h : d ≤ 9) : Lib.digitVal (UInt8.ofNat (48 + d)) = some d := by
 have : d = 0 ∨ d = 1 ∨ d = 2 ∨ d = 3 ∨ d = 4 ∨ d = 5 ∨ d = 6 ∨ d = 7 ∨ d = 8 ∨ d = 9 := by omega
 rcases this with rfl | rfl | rfl | rfl | rfl | rfl | rfl | rfl | rfl | rfl <;> rfl
theorem digits_dF : ∀ (f : Nat) (s : List UInt8) (n : Nat), Lib.decFrom 0 s = some n → s ≠ [] → (s.length = 1 ∨ s.head? ≠ some 48) → s.length ≤ f → digitsF f n = s
 | 0, s, n, _, h0, _, hl => absurd (List.length_eq_zero_iff.1 (by omega)) h0
 | f + 1, s, n, h, h0, hz, hl => by
  obtain ⟨x, c, rfl⟩ : ∃ x c, s = x ++ [c] := ⟨s.dropLast, s.getLast h0, (List.dropLast_concat_getLast h0).symm⟩
  rw [dF_app] at h
  cases hx : Lib.decFrom 0 x with
  | none => rw [hx] at h; cases h
  | some m =>
   cases hd : Lib.digitVal c with
   | none => rw [hx, hd] at h; cases h
   | some d =>
    rw [hx, hd] at h
    simp only [Option.bind_some, Option.map_some, Option.some.injEq] at h
    obtain ⟨h9, hc, _⟩ := dv_of hd
    by_cases he : x = []
    ·subst he
     simp only [Lib.decFrom, Option.some.injEq] at hx
     unfold digitsF
     rw [if_pos (by omega), hc]
     simp only [List.nil_append]
     congr 2
     omega
    ·have hh : x.head? ≠ some 48 := by
      rcases hz with hz | hz
      ·have := List.length_pos_iff.2 he
       rw [List.length_append, List.length_singleton] at hz
       omega
      ·cases x with
       | nil => exact absurd rfl he
       | cons y q => simpa using hz
     have hm : 1 ≤ m := by
      cases x with
      | nil => exact absurd rfl he
      | cons y q =>
       simp only [Lib.decFrom] at hx
       cases hy : Lib.digitVal y with
       | none => rw [hy] at hx; cases hx
       | some e =>
        rw [hy] at hx
        have h1 := dF_ge q _ m hx
        obtain ⟨_, h2, _⟩ := dv_of hy
        have : e ≠ 0 := fun e0 => hh (by subst e0; rw [h2]; rfl)
        omega
     have hl' : x.length ≤ f := by rw [List.length_append, List.length_singleton] at hl; omega
     have ih := digits_dF f x m hx he (.inr hh) hl'
     unfold digitsF
     rw [if_neg (by omega), show n / 10 = m by omega, ih, hc]
     congr 3
     omega
theorem dF_digits : ∀ (f n : Nat), n < 10 ^ (f + 1) → Lib.decFrom 0 (digitsF (f + 1) n) = some n
 | 0, n, h => by
  have h : n < 10 := by simpa using h
  unfold digitsF
  rw [if_pos h]
  simp only [Lib.decFrom, dv_ofNat (show n ≤ 9 by omega)]
  simp
 | f + 1, n, h => by
  unfold digitsF
  by_cases h10 : n < 10
  ·rw [if_pos h10]
   simp only [Lib.decFrom, dv_ofNat (show n ≤ 9 by omega)]
   simp
  ·rw [if_neg h10, dF_app, dF_digits f (n / 10) (by rw [Nat.pow_succ] at h; omega), dv_ofNat (by omega)]
   simp only [Option.bind_some, Option.map_some, Option.some.injEq]
   omega
theorem digitsF_ne : ∀ (f n : Nat), digitsF (f + 1) n ≠ []
 | f, n => by
  unfold digitsF
  split <;> simp
theorem digitsF_head : ∀ (f n : Nat), n < 10 ^ (f + 1) → (digitsF (f + 1) n).length = 1 ∨ (digitsF (f + 1) n).head? ≠ some 48
 | 0, n, h => by
  have h : n < 10 := by simpa using h
  unfold digitsF
  rw [if_pos h]
  exact .inl rfl
 | f + 1, n, h => by
  unfold digitsF
  by_cases h10 : n < 10
  ·rw [if_pos h10]; exact .inl rfl
  ·rw [if_neg h10]
   refine .inr ?_
   have hne := digitsF_ne f (n / 10)
   rcases digitsF_head f (n / 10) (by rw [Nat.pow_succ] at h; omega) with ih | ih
   ·cases f with
    | zero =>
     unfold digitsF
     rw [Nat.pow_succ] at h
     have : n / 10 < 10 := by omega
     rw [if_pos this]
     have h1 : 1 ≤ n / 10 := by omega
     generalize n / 10 = m at *
     have : m = 1 ∨ m = 2 ∨ m = 3 ∨ m = 4 ∨ m = 5 ∨ m = 6 ∨ m = 7 ∨ m = 8 ∨ m = 9 := by omega
     rcases this with rfl | rfl | rfl | rfl | rfl | rfl | rfl | rfl | rfl <;> simp
    | succ f =>
     unfold digitsF at ih ⊢
     by_cases hm : n / 10 < 10
     ·rw [if_pos hm]
      have h1 : 1 ≤ n / 10 := by omega
      generalize n / 10 = m at *
      have : m = 1 ∨ m = 2 ∨ m = 3 ∨ m = 4 ∨ m = 5 ∨ m = 6 ∨ m = 7 ∨ m = 8 ∨ m = 9 := by omega
      rcases this with rfl | rfl | rfl | rfl | rfl | rfl | rfl | rfl | rfl <;> simp
     ·rw [if_neg hm] at ih
      have := List.length_pos_iff.2 (digitsF_ne f (n / 10 / 10))
      rw [List.length_append, List.length_singleton] at ih
      omega
   ·cases hq : digitsF (f + 1) (n / 10) with
    | nil => exact absurd hq hne
    | cons y q => rw [hq] at ih; simpa using ih
theorem numD_lt {s : List UInt8} {n : Nat} (h : numD s = some n) : n ≤ 999999999 := by
 unfold numD at h
 split at h
 ·cases h
 ·rename_i hn
  have h1 := Lib.decFrom_lt s 0 n h
  have h2 : 10 ^ s.length ≤ 10 ^ 9 := Nat.pow_le_pow_right (by decide) (by omega)
  simp only [Nat.zero_add, Nat.one_mul] at h1
  have : (10 : Nat) ^ 9 = 1000000000 := by decide
  omega
theorem numD_text {s : List UInt8} {n : Nat} (h : numD s = some n) : decL n = s := by
 unfold numD at h
 split at h
 ·cases h
 ·rename_i hn
  unfold decL
  rw [Int.toNat_natCast]
  refine digits_dF 20 s n h (fun e => hn (.inl (by rw [e]; rfl))) ?_ (by omega)
  by_cases h1 : s.length = 1
  ·exact .inl h1
  ·exact .inr fun e => hn (.inr (.inr ⟨by omega, e⟩))
theorem digitsF_len9 {f n : Nat} (h : n < 10 ^ (f + 1)) : (digitsF 20 n).length ≤ f + 1 := by
 have key : ∀ (f g n : Nat), n < 10 ^ (f + 1) → f ≤ g → (digitsF (g + 1) n).length ≤ f + 1 := by
  intro f
  induction f with
  | zero =>
   intro g n h _
   have h : n < 10 := by simpa using h
   unfold digitsF
   rw [if_pos h]
   exact Nat.le_refl _
  | succ f ih =>
   intro g n h hg
   unfold digitsF
   split
   ·simp
   ·obtain ⟨g', rfl⟩ : ∃ g', g = g' + 1 := ⟨g - 1, by omega⟩
    have := ih g' (n / 10) (by rw [Nat.pow_succ] at h; omega) (by omega)
    rw [List.length_append, List.length_singleton]
    omega
 by_cases hf : f ≤ 19
 ·exact key f 19 n h hf
 ·have := digitsF_len 20 n
  omega
theorem numD_digits {n : Int} (h : 0 ≤ n ∧ n ≤ 999999999) : numD (decL n) = some n.toNat := by
 unfold decL numD
 have hn : n.toNat < 10 ^ (8 + 1) := by
  have : (10 : Nat) ^ 9 = 1000000000 := by decide
  omega
 have h20 : n.toNat < 10 ^ (19 + 1) := Nat.lt_of_lt_of_le hn (by decide)
 have h1 := digitsF_len9 hn
 have h2 := digitsF_ne 19 n.toNat
 have h3 := digitsF_head 19 n.toNat h20
 have h4 : 0 < (digitsF 20 n.toNat).length := List.length_pos_iff.2 h2
 rw [if_neg, dF_digits 19 _ h20]
 rintro (h | h | ⟨h, h'⟩)
 ·omega
 ·omega
 ·rcases h3 with h3 | h3
  ·have h3 : (digitsF 20 n.toNat).length = 1 := h3
   omega
  ·exact h3 h'
end Go.Proofs.YtcbddkeiohdocaaGreatDoor.Co
/-
 Integers that the program reads, plain.
-/
namespace Go.Proofs.YtcbddkeiohdocaaGreatDoor.Co
open Go Go.Evl
def intV (s : List UInt8) : Int × Bool :=
 match Lib.atoiAll s with
 | .ok n => (n, decide (0 ≤ n) && decide (n ≤ 999999999) && decide (decL n = s))
 | .syntax => (0, false)
 | .range => (Lib.atoiSat s, false)
theorem atoi_dF {s : List UInt8} {n : Nat} (h0 : s ≠ []) (h : Lib.decFrom 0 s = some n) : Lib.atoi s = some (n : Int) := by
 cases s with
 | nil => exact absurd rfl h0
 | cons c r =>
  have hd : ∃ d, Lib.digitVal c = some d := by
   cases hv : Lib.digitVal c with
   | none => rw [Lib.decFrom, hv] at h; cases h
   | some d => exact ⟨d, rfl⟩
  obtain ⟨d, hd⟩ := hd
  have hc := (dv_of hd).2.2
  have e1 : (c == 45) = false := beq_eq_false_iff_ne.2 fun e => by
   have : c.toNat = 45 := by rw [e]; rfl
   omega
  have e2 : (c == 43) = false := beq_eq_false_iff_ne.2 fun e => by
   have : c.toNat = 43 := by rw [e]; rfl
   omega
  simp only [Lib.atoi, e1, e2, Lib.decNat, List.isEmpty_cons, h]
  simp
theorem intV_num (s : List UInt8) : numD s = if (intV s).2 = true then some (intV s).1.toNat else none := by
 cases hb : (intV s).2
 ·rw [if_neg (by decide)]
  cases hn : numD s with
  | none => rfl
  | some m =>
   exfalso
   have hm := numD_lt hn
   have ht := numD_text hn
   unfold numD at hn
   split at hn
   ·cases hn
   ·rename_i hc
    have hl : s.length ≤ 9 := by omega
    have h0 : s ≠ [] := fun e => hc (.inl (by rw [e]; rfl))
    have ha : Lib.atoiAll s = .ok (m : Int) := by rw [Lib.atoiAll_short s (by omega), atoi_dF h0 hn]; rfl
    unfold intV at hb
    rw [ha] at hb
    simp only [Bool.and_eq_false_iff, decide_eq_false_iff_not] at hb
    rcases hb with (hb | hb) | hb
    ·omega
    ·omega
    ·exact hb ht
 ·rw [if_pos rfl]
  unfold intV at hb ⊢
  cases hv : Lib.atoiAll s with
  | ok n =>
   rw [hv] at hb
   simp only [Bool.and_eq_true, decide_eq_true_eq] at hb
   obtain ⟨⟨h1, h2⟩, h3⟩ := hb
   have := numD_digits ⟨h1, h2⟩
   rw [h3] at this
   exact this
  | «syntax» => rw [hv] at hb; cases hb
  | range => rw [hv] at hb; cases hb
end Go.Proofs.YtcbddkeiohdocaaGreatDoor.Co
/-
 The office's numbers and checksums: what the program's functions and the reference's give.
-/
namespace Go.Proofs.YtcbddkeiohdocaaGreatDoor.Co
open Go Go.Evl
def sumF (x : Int) : List UInt8 → Int
 | [] => x
 | b :: r => sumF ((281 * x + b.toNat) % 9999943) r
def sumN (s : List UInt8) : Int := sumF 1 s
def sumT (s : List UInt8) : List UInt8 := wideL 7 (sumN s)
theorem sumF_app (a b : List UInt8) : ∀ x, sumF x (a ++ b) = sumF (sumF x a) b := by
 induction a with
 | nil => intro x; rfl
 | cons c r ih => intro x; exact ih _
theorem sum_take {s : List UInt8} {k : Nat} (h : k < s.length) : sumN (s.take (k + 1)) = (281 * sumN (s.take k) + (s.getD k 0).toNat) % 9999943 := by
 have e : s.getD k 0 = s[k] := by simp [List.getD, h]
 rw [e, List.take_add_one, List.getElem?_eq_getElem h, Option.toList_some]
 unfold sumN
 rw [sumF_app]; rfl
theorem sum_lt (s : List UInt8) : 0 ≤ sumN s ∧ sumN s < 9999943 := by
 have key : ∀ (s : List UInt8) (x : Int), 0 ≤ x ∧ x < 9999943 → 0 ≤ sumF x s ∧ sumF x s < 9999943 := by
  intro s
  induction s with
  | nil => intro x h; exact h
  | cons b r ih =>
   intro x h
   have := toNat_u8 b
   exact ih _ (by omega)
 exact key s 1 (by omega)
theorem sumT_len (s : List UInt8) : (sumT s).length = 7 := wideL_length 7 _
theorem sum_pad (s : List UInt8) : (digitsF 20 (sumN s).toNat).length ≤ 7 ∧ List.replicate (7 - (digitsF 20 (sumN s).toNat).length) 48 ++ digitsF 20 (sumN s).toNat = sumT s := by
 have h := sum_lt s
 have h7 : (10 : Nat) ^ 7 = 10000000 := by decide
 obtain ⟨h1, h2⟩ := wideL_pad 7 20 (sumN s).toNat (by omega) (by omega) (by omega)
 rw [Int.toNat_of_nonneg h.1] at h2
 exact ⟨h1, h2⟩
def sevenB (s : List UInt8) : Bool := decide (s.length = 7) && s.all fun b => decide (48 ≤ b.toNat ∧ b.toNat ≤ 57)
section
variable {E : Oracle} (g : Good E)
include g
set_option maxRecDepth 100000
theorem o_Dec (n : Int) (h : 0 ≤ n ∧ n ≤ 999999999) : Fc E n_strconv_Itoa [I n] (S (decL n)) := s_Itoa g n (by omega)
theorem q_Dec (n : Int) (h : 0 ≤ n ∧ n ≤ 999999999) : Fc E n_ref01_Text [I n] (S (decL n)) := by
 have p1 : (10 ^ (9 + 1) : Nat) = 10000000000 := by decide
 have p2 : (10 ^ (19 + 1) : Nat) = 100000000000000000000 := by decide
 have h1 := r_Text g 9 n (by decide) (by omega)
 rw [digitsF_same 9 19 n.toNat (by omega) (by omega)] at h1
 exact h1
theorem r_Text10 (n : Int) (h : 0 ≤ n ∧ n ≤ 999999999) : Fc E n_ref10_Text [I n] (S (decL n)) := by
 refine g.fn rfl rfl ?_
 have h1 := q_Dec g n h
 repeat' ((conv => whnf); first
 | refine Yz ?_
  | (apply CallI.of; assumption)
  | (refine Ret.mk rfl))
theorem s_sum (s : List UInt8) (hs : s.length ≤ 1000000) : Fc E n_office_sum [S s] (S (sumT s)) := by
 refine g.fn rfl rfl ?_
 repeat' ((conv => whnf); first
 | refine Yz ?_)
 refine LoopW.to (LoopW.up g (fun k => [(0, S s), (3, I (sumN (s.take k))), (7, I s.length), (8, I k)]) (fun _ => []) s.length (fun k hk ih => ?_) 0 (Nat.zero_le _)) rfl rfl
 have hb := sum_lt (s.take k)
 by_cases hlt : k < s.length
 ·have ih := ih hlt
  have hu := toNat_u8 (s.getD k 0)
  rw [sum_take hlt] at ih
  repeat' ((conv => whnf); first
  | refine Yz ?_
   | (refine PickB.at k (by omega) hlt ?_)
   | (refine LoopW.to ih rfl rfl))
 ·obtain rfl : k = s.length := by omega
  rw [List.take_length] at hb ⊢
  obtain ⟨h1, h2⟩ := sum_pad s
  have hi := s_Itoa g (sumN s) (by omega)
  have hr : Fc E n_strings_Repeat [S [48], I (7 - ((digitsF 20 (sumN s).toNat).length : Int))] (S (List.replicate (7 - (digitsF 20 (sumN s).toNat).length) 48)) := by
   have e : (7 - ((digitsF 20 (sumN s).toNat).length : Int)) = ((7 - (digitsF 20 (sumN s).toNat).length : Nat) : Int) := by omega
   rw [e]
   refine Fc.extern g.lim (x := repeatX) rfl (v := S (List.replicate (7 - (digitsF 20 (sumN s).toNat).length) 48)) (m' := []) ?_ rfl
   simp only [repeatX]
   rw [if_pos ⟨by omega, by omega, by simp⟩, Int.toNat_natCast, repeatL_one]
  repeat' ((conv => whnf); first
  | refine Yz ?_
   | (apply CallI.of; assumption)
   | (refine Need.mk (by simp only [maxStr, List.length_replicate]; omega) ?_)
   | (refine Ret.mk ?_))
  rw [h2]
theorem r_Sum (s : List UInt8) (hs : s.length ≤ 1000000) : Fc E n_ref10_Sum [S s] (S (sumT s)) := by
 refine g.fn rfl rfl ?_
 repeat' ((conv => whnf); first
 | refine Yz ?_)
 refine LoopW.to (LoopW.up g (fun k => [(0, S s), (3, I (sumN (s.take k))), (4, I k)]) (fun _ => []) s.length (fun k hk ih => ?_) 0 (Nat.zero_le _)) rfl rfl
 have hb := sum_lt (s.take k)
 by_cases hlt : k < s.length
 ·have ih := ih hlt
  have hu := toNat_u8 (s.getD k 0)
  rw [sum_take hlt] at ih
  repeat' ((conv => whnf); first
  | refine Yz ?_
   | (refine PickB.at k (by omega) hlt ?_)
   | (refine LoopW.to ih rfl rfl))
 ·obtain rfl : k = s.length := by omega
  rw [List.take_length] at hb ⊢
  obtain ⟨h1, h2⟩ := sum_pad s
  have hi : Fc E n_ref10_Text [I (sumN s)] (S (digitsF 20 (sumN s).toNat)) := r_Text10 g (sumN s) (by omega)
  repeat' ((conv => whnf); first
  | refine Yz ?_
   | (apply CallI.of; assumption))
  refine LoopW.to (LoopW.up g (fun k => [(5, S (List.replicate k 48 ++ digitsF 20 (sumN s).toNat))]) (fun _ => []) (7 - (digitsF 20 (sumN s).toNat).length) (fun k hk ih => ?_) 0 (Nat.zero_le _)) rfl rfl
  have hl : (List.replicate k (48 : UInt8) ++ digitsF 20 (sumN s).toNat).length = k + (digitsF 20 (sumN s).toNat).length := by simp
  by_cases hlt : k < 7 - (digitsF 20 (sumN s).toNat).length
  ·have ih := ih hlt
   repeat' ((conv => whnf); first
   | refine Yz ?_
    | (refine Need.mk (by simp only [maxStr, List.length_append, List.length_replicate, List.length_cons, List.length_nil]; omega) ?_)
    | (refine LoopW.to ih rfl rfl))
  ·obtain rfl : k = 7 - (digitsF 20 (sumN s).toNat).length := by omega
   rw [h2] at hl ⊢
   have h7 := sumT_len s
   repeat' ((conv => whnf); first
   | refine Yz ?_
    | (refine Ret.mk rfl))
end
end Go.Proofs.YtcbddkeiohdocaaGreatDoor.Co
/-
 Is a weekday in a mask? Calls whose results live in the caller's memory.
-/
namespace Go.Proofs.YtcbddkeiohdocaaGreatDoor.Co
open Go Go.Evl
theorem CallS.of {E : Oracle} {f : Nat} {args : List V} {cx : Cx} {slot : Nat} {m : Mem} {K : V → Mem → Prop} (h : In E 0 f args [] fun v m' => Some' (Go.Evl.settle cx slot 0 m m' v) fun p => K p.1 p.2) : CallS E f args cx slot m K := by
 obtain ⟨v, m', h1, p, h2, h3⟩ := h
 exact ⟨v, m', p, h1, h2, h3⟩
end Go.Proofs.YtcbddkeiohdocaaGreatDoor.Co
/-
 Messages: requests and lines, checked.
-/
namespace Go.Proofs.YtcbddkeiohdocaaGreatDoor.Co
open Go Go.Evl
structure Rqt where
 (nm ca ki te pa li : List UInt8)
 (fr to da mi se si no : Int)
 deriving DecidableEq
def Rqt.cells (q : Rqt) : List D := [.str q.nm, .str q.ca, .str q.ki, .str q.te, .str q.pa, .str q.li, DI q.fr, DI q.to, DI q.da, DI q.mi, DI q.se, DI q.si, DI q.no]
structure Lnt where
 ac : List UInt8
 rq : Rqt
def Lnt.cells (l : Lnt) : List D := .str l.ac :: l.rq.cells
end Go.Proofs.YtcbddkeiohdocaaGreatDoor.Co
/-
 The parts of a text between the places of one byte: strings.Split's, told by recursion.
-/
namespace Go.Evl
open Go Go.Lib
def parts (b : UInt8) : List UInt8 → List (List UInt8)
 | [] => [[]]
 | x :: r => if x = b then [] :: parts b r else
  match parts b r with
  | [] => [[x]]
  | p :: q => (x :: p) :: q
theorem parts_ne (b : UInt8) (s : List UInt8) : parts b s ≠ [] := by
 cases s with
 | nil => simp [parts]
 | cons x r =>
  unfold parts
  split
  ·simp
  ·split <;> simp
theorem parts_len (b : UInt8) : ∀ s : List UInt8, (parts b s).length ≤ s.length + 1
 | [] => by simp [parts]
 | x :: r => by
  have ih := parts_len b r
  rw [parts]
  split
  ·simp; omega
  ·split
   ·simp
   ·rename_i h; rw [h] at ih; simp only [List.length_cons] at ih ⊢; omega
theorem splitK_parts (b : UInt8) : ∀ s : List UInt8, splitK [b] 0 (count s [b]) s = parts b s
 | [] => by
  have : count ([] : List UInt8) [b] = 0 := count_miss (by rw [index_one]; rfl)
  rw [this]; rfl
 | x :: r => by
  have ih := splitK_parts b r
  unfold parts
  by_cases h : x = b
  ·subst h
   have hi : index (x :: r) [x] = ((0 : Nat) : Int) := by rw [index_one]; simp [indexByte]
   have hc := count_hit (by simp) hi
   simp only [List.length_cons, List.length_nil, Nat.zero_add, List.drop_succ_cons, List.drop_zero] at hc
   rw [hc, Nat.add_comm 1, if_pos rfl, ← ih]
   simp only [splitK, hi, List.length_cons, List.length_nil]
   rfl
  ·rw [count_cons_ne x b r h, if_neg h, ← ih]
   have hx : (x == b) = false := by simpa using h
   generalize count r [b] = k
   cases k with
   | zero => rfl
   | succ k =>
    have hr : index (x :: r) [b] = if indexByte r b == -1 then -1 else indexByte r b + 1 := by rw [index_one]; simp [indexByte, hx]
    have hq : index r [b] = indexByte r b := index_one r b
    simp only [splitK, hr, hq]
    have hge := indexByte_ge r b
    by_cases hm : indexByte r b = -1
    ·simp [hm]
    ·obtain ⟨i, hi⟩ : ∃ i : Nat, indexByte r b = i := ⟨(indexByte r b).toNat, by omega⟩
     rw [hi]
     have e1 : (((i : Nat) : Int) == -1) = false := by simp
     have e2 : (((i : Nat) : Int) + 1 == -1) = false := by simp; omega
     have e3 : (((i : Nat) : Int) + 1).toNat = i + 1 := by omega
     simp only [e1, e2, e3, Bool.false_eq_true, if_false, Int.toNat_natCast, Nat.add_zero, List.take_succ_cons, List.length_cons, List.length_nil, Nat.zero_add, List.drop_succ_cons]
theorem splitD_parts (s : List UInt8) (b : UInt8) : splitD s [b] = parts b s := by
 unfold splitD
 rw [splitB_data]
 exact splitK_parts b s
def joined (b : UInt8) : List (List UInt8) → List UInt8
 | [] => []
 | [x] => x
 | x :: y :: r => x ++ b :: joined b (y :: r)
theorem join_joined (b : UInt8) : ∀ l : List (List UInt8), Lib.join l [b] = joined b l
 | [] => rfl
 | [x] => Lib.join_one x [b]
 | x :: y :: r => by
  have ih := join_joined b (y :: r)
  simp only [Lib.join, List.intercalate] at ih ⊢
  simp only [List.intersperse_cons_cons, List.flatten_cons, ih, joined]
  simp
theorem joined_cons (b x : UInt8) (p : List UInt8) (q : List (List UInt8)) : joined b ((x :: p) :: q) = x :: joined b (p :: q) := by
 cases q <;> rfl
theorem joined_parts (b : UInt8) : ∀ s : List UInt8, joined b (parts b s) = s
 | [] => rfl
 | x :: r => by
  have ih := joined_parts b r
  unfold parts
  by_cases h : x = b
  ·rw [if_pos h]
   cases hp : parts b r with
   | nil => exact absurd hp (parts_ne b r)
   | cons p q => rw [joined, ← hp, ih, h]; rfl
  ·rw [if_neg h]
   cases hp : parts b r with
   | nil => exact absurd hp (parts_ne b r)
   | cons p q =>
    rw [hp] at ih
    rw [joined_cons, ih]
theorem parts_word (b : UInt8) : ∀ w : List UInt8, b ∉ w → parts b w = [w]
 | [], _ => rfl
 | x :: r, h => by
  have hx : ¬ x = b := fun e => h (by simp [e])
  have hr : b ∉ r := fun e => h (by simp [e])
  unfold parts
  rw [if_neg hx, parts_word b r hr]
theorem parts_append (b : UInt8) (s : List UInt8) : ∀ w : List UInt8, b ∉ w → parts b (w ++ b :: s) = w :: parts b s
 | [], _ => by simp [parts]
 | x :: r, h => by
  have hx : ¬ x = b := fun e => h (by simp [e])
  have hr : b ∉ r := fun e => h (by simp [e])
  rw [List.cons_append, parts, if_neg hx, parts_append b s r hr]
end Go.Evl
/-
 Messages: the parts of a text between blanks.
-/
namespace Go.Proofs.YtcbddkeiohdocaaGreatDoor.Co
open Go Go.Evl
abbrev LS (l : List (List UInt8)) : V := .d (.list l.length (l.map D.str))
theorem drop_eq_win {s : List UInt8} {f i : Nat} (h : f ≤ i) : s.drop f = win s f (i - f) ++ s.drop i := by
 unfold win
 have := (List.take_append_drop (i - f) (s.drop f)).symm
 rwa [List.drop_drop, Nat.add_sub_cancel' h] at this
theorem mem_win {s : List UInt8} {b : UInt8} {f i : Nat} (h : b ∈ win s f (i - f)) : ∃ j, f ≤ j ∧ j < i ∧ j < s.length ∧ s.getD j 0 = b := by
 unfold win at h
 obtain ⟨k, hk, rfl⟩ := List.getElem_of_mem h
 simp only [List.length_take, List.length_drop] at hk
 refine ⟨f + k, by omega, by omega, by omega, ?_⟩
 simp [List.getD, show f + k < s.length by omega]
theorem strsOf_map : ∀ l : List (List UInt8), Evl.strsOf (l.map D.str) = some l
 | [] => rfl
 | x :: r => by simp only [List.map_cons, Evl.strsOf, strsOf_map r, Option.map_some]
section
variable {E : Oracle} (g : Good E)
include g
theorem s_Split (s : List UInt8) (hs : s.length ≤ 1000000) : Fc E n_strings_Split [S s, S [32]] (LS (parts 32 s)) := by
 refine Fc.extern g.lim (x := splitX) rfl (v := LS (parts 32 s)) (m' := []) ?_ rfl
 simp only [splitX, splitD_parts]
 rw [if_pos ⟨hs, by simp⟩]
theorem s_Join (l : List (List UInt8)) (hn : l ≠ []) (hl : l.length ≤ 1000000) (hj : (joined 32 l).length ≤ 1000000) : Fc E n_strings_Join [.d (.list l.length (l.map D.str)), S [32]] (S (joined 32 l)) := by
 refine Fc.extern g.lim (x := joinX) rfl (v := S (joined 32 l)) (m' := []) ?_ rfl
 simp only [joinX, strsOf_map, join_joined]
 rw [if_pos ⟨trivial, by simpa using hn, hj, hl⟩]
end
end Go.Proofs.YtcbddkeiohdocaaGreatDoor.Co
/-
 The office's words and bodies of events: what the program's functions and the reference's give.
-/
namespace Go.Proofs.YtcbddkeiohdocaaGreatDoor.Co
open Go Go.Evl
section
variable {E : Oracle} (g : Good E)
include g
set_option maxRecDepth 100000
theorem s_runes {f : Nat} {p : UInt8 → Bool} {s : List UInt8} (h1 : ∀ b : UInt8, b.toNat < 128 → Fc E f [.d (.int .i32 b.toNat)] (B (p b))) (h2 : ∀ c : Int, 128 ≤ c → Fc E f [.d (.int .i32 c)] (B true)) (h3 : ∀ b : UInt8, 128 ≤ b.toNat → p b = true) :
  Fc E n_strings_indexFunc [S s, .d (.fn f), B true] (I (idxI p s)) := by
 refine g.fn rfl rfl ?_
 repeat' ((conv => whnf); first
 | refine Yz ?_)
 refine LoopW.to (LoopW.upP g (fun _ => [(1, .d (.fn f)), (2, B true), (10, .it ⟨0, 10, 0⟩)]) (fun k => [(⟨0, 10, 0⟩, .iter s k)]) (fun k => ∀ j, (hj : j < k) → (hj' : j < s.length) → p s[j] = false) s.length (fun k hk hp ih => ?_) 0 (Nat.zero_le _) (fun j hj => by omega)) rfl rfl
 by_cases hlt : k < s.length
 ·have eg : s.getD k 0 = s[k] := by simp [List.getD, hlt]
  by_cases ha : (s.getD k 0).toNat < 128
  ·have hx := h1 (s.getD k 0) ha
   cases hb : p s[k] with
   | true =>
    rw [eg, hb] at hx
    rw [eg] at ha
    have hi := idxI_at (p := p) hlt hb fun j hj => hp j hj (by omega)
    rw [hi]
    repeat' ((conv => whnf); first
    | refine Yz ?_
     | (refine NextW.asc hlt (by rw [eg]; exact ha) ?_; rw [eg])
     | (apply CallI.of; assumption)
     | (refine Ret.mk rfl))
   | false =>
    rw [eg, hb] at hx
    rw [eg] at ha
    have ih := ih hlt fun j hj hj' => by
     by_cases e : j = k
     ·subst e; exact hb
     ·exact hp j (by omega) hj'
    repeat' ((conv => whnf); first
    | refine Yz ?_
     | (refine NextW.asc hlt (by rw [eg]; exact ha) ?_; rw [eg])
     | (apply CallI.of; assumption)
     | (refine LoopW.to ih rfl rfl))
  ·have hb : p s[k] = true := by rw [← eg]; exact h3 _ (by omega)
   have hi := idxI_at (p := p) hlt hb fun j hj => hp j hj (by omega)
   rw [hi]
   repeat' ((conv => whnf); first
   | refine Yz ?_
    | (refine NextW.high hlt (by omega) (fun c w hc hw => ?_); have hx := h2 c hc)
    | (apply CallI.of; assumption)
    | (refine Ret.mk rfl))
 ·obtain rfl : k = s.length := by omega
  have hi := idxI_none (p := p) (l := s) fun j hj => hp j hj hj
  rw [hi]
  repeat' ((conv => whnf); first
  | refine Yz ?_
   | (refine NextW.end' (Nat.le_refl _) ?_)
   | (refine Ret.mk rfl))
theorem s_anyRune {f : Nat} {p : UInt8 → Bool} {s : List UInt8} (h1 : ∀ b : UInt8, b.toNat < 128 → Fc E f [.d (.int .i32 b.toNat)] (B (p b))) (h2 : ∀ c : Int, 128 ≤ c → Fc E f [.d (.int .i32 c)] (B true)) (h3 : ∀ b : UInt8, 128 ≤ b.toNat → p b = true) :
  Fc E n_strings_ContainsFunc [S s, .d (.fn f)] (B (s.any p)) := by
 have h := s_runes g (s := s) h1 h2 h3
 have hi : Fc E n_strings_IndexFunc [S s, .d (.fn f)] (I (idxI p s)) := by
  refine g.fn rfl rfl ?_
  repeat' ((conv => whnf); first
  | refine Yz ?_
   | (apply CallI.of; assumption)
   | (refine Ret.mk rfl))
 refine g.fn rfl rfl ?_
 rw [← idxI_any]
 repeat' ((conv => whnf); first
 | refine Yz ?_
  | (apply CallI.of; assumption)
  | (refine Cmp.mk (fun h => ?_) (fun h => ?_)) | (refine Rem.any (by omega) (fun r hr he => ?_)) | (refine Br.mk (fun h => ?_) (fun h => ?_))
  | (refine Ret.mk ?_))
 all_goals simp_all
theorem s_dig1 (c : Int) : Fc E n_office_digits_1 [.d (.int .i32 c)] (B (decide (c < 48 ∨ 57 < c))) := by
 refine g.fn rfl rfl ?_
 repeat' ((conv => whnf); first
 | refine Yz ?_
  | (refine Cmp.mk (fun h => ?_) (fun h => ?_)) | (refine Rem.any (by omega) (fun r hr he => ?_)) | (refine Br.mk (fun h => ?_) (fun h => ?_))
  | (refine Ret.mk ?_))
 all_goals simp_all
theorem s_digits7 (s : List UInt8) : Fc E n_office_digits [S s] (B (sevenB s)) := by
 refine g.fn rfl rfl ?_
 have h := s_anyRune g (f := n_office_digits_1) (s := s) (p := fun b => !decide (48 ≤ b.toNat ∧ b.toNat ≤ 57))
  (fun b hb => by
   have := s_dig1 g b.toNat
   have e : decide ((b.toNat : Int) < 48 ∨ 57 < (b.toNat : Int)) = !decide (48 ≤ b.toNat ∧ b.toNat ≤ 57) := by
    rw [← decide_not]
    exact decide_eq_decide.2 (by omega)
   rw [e] at this
   exact this)
  (fun c hc => by
   have := s_dig1 g c
   rw [decide_eq_true (by omega)] at this
   exact this)
  (fun b hb => by simp; omega)
 have e : (s.any fun b => !decide (48 ≤ b.toNat ∧ b.toNat ≤ 57)) = !(s.all fun b => decide (48 ≤ b.toNat ∧ b.toNat ≤ 57)) := by
  rw [List.not_all_eq_any_not]
 rw [e] at h
 unfold sevenB
 by_cases h7 : s.length = 7
 ·rw [decide_eq_true h7, Bool.true_and]
  cases hb : s.all fun b => decide (48 ≤ b.toNat ∧ b.toNat ≤ 57)
  all_goals
   rw [hb] at h
   repeat' ((conv => whnf); first
   | refine Yz ?_
    | (apply CallI.of; assumption)
    | (refine Ret.mk rfl))
 ·rw [decide_eq_false h7, Bool.false_and]
  repeat' ((conv => whnf); first
  | refine Yz ?_
   | (refine Ret.mk rfl))
theorem r_digits7 (s : List UInt8) (hs : s.length ≤ 1000000) : Fc E n_ref10_digits [S s] (B (sevenB s)) := by
 refine g.fn rfl rfl ?_
 repeat' ((conv => whnf); first
 | refine Yz ?_)
 refine LoopW.to (LoopW.upP g (fun k => [(0, S s), (3, I k)]) (fun _ => []) (fun k => ∀ j, (hj : j < k) → (hj' : j < s.length) → 48 ≤ s[j].toNat ∧ s[j].toNat ≤ 57) s.length (fun k hk hp ih => ?_) 0 (Nat.zero_le _) (fun j hj => by omega)) rfl rfl
 by_cases hlt : k < s.length
 ·have eg : s.getD k 0 = s[k] := by simp [List.getD, hlt]
  have hb := toNat_u8 (s.getD k 0)
  by_cases hd : 48 ≤ (s.getD k 0).toNat ∧ (s.getD k 0).toNat ≤ 57
  ·have ih := ih hlt fun j hj hj' => by
    by_cases e : j = k
    ·subst e; rw [← eg]; exact hd
    ·exact hp j (by omega) hj'
   repeat' ((conv => whnf); first
   | refine Yz ?_
    | (refine PickB.at k (by omega) hlt ?_)
    | (refine LoopW.to ih rfl rfl))
  ·have hno : sevenB s = false := by
    unfold sevenB
    have : (s.all fun b => decide (48 ≤ b.toNat ∧ b.toNat ≤ 57)) = false := by
     rw [List.all_eq_false]
     exact ⟨s[k], List.getElem_mem hlt, by rw [← eg]; simpa using hd⟩
    rw [this, Bool.and_false]
   rw [hno]
   repeat' ((conv => whnf); first
   | refine Yz ?_
    | (refine PickB.at k (by omega) hlt ?_)
    | (refine Cmp.mk (fun h => ?_) (fun h => ?_)) | (refine Rem.any (by omega) (fun r hr he => ?_)) | (refine Br.mk (fun h => ?_) (fun h => ?_))
    | (refine Ret.mk rfl)
    | (exfalso; omega))
 ·have hall : (s.all fun b => decide (48 ≤ b.toNat ∧ b.toNat ≤ 57)) = true := by
   rw [List.all_eq_true]
   intro x hx
   obtain ⟨j, hj, rfl⟩ := List.mem_iff_getElem.1 hx
   simpa using hp j (by omega) hj
  unfold sevenB
  rw [hall, Bool.and_true]
  by_cases h7 : s.length = 7
  ·rw [decide_eq_true h7]
   repeat' ((conv => whnf); first
   | refine Yz ?_
    | (refine Ret.mk rfl))
  ·rw [decide_eq_false h7]
   repeat' ((conv => whnf); first
   | refine Yz ?_
    | (refine Ret.mk rfl))
end
end Go.Proofs.YtcbddkeiohdocaaGreatDoor.Co
/-
 The office's words: split, joined, counted up; integers.
-/
namespace Go.Proofs.YtcbddkeiohdocaaGreatDoor.Co
open Go Go.Evl
def decV (s : List UInt8) : Int × Bool :=
 match Lib.atoiAll s with
 | .ok n => (n, decide (s.length ≤ 9) && decide (0 ≤ n) && decide (decL n = s))
 | .syntax => (0, false)
 | .range => (Lib.atoiSat s, false)
theorem dec_le {s : List UInt8} {m : Nat} (h : Lib.decFrom 0 s = some m) (hs : s.length ≤ 9) : m ≤ 999999999 := by
 have h1 := Lib.decFrom_lt _ 0 m h
 have h3 := Nat.pow_le_pow_right (n := 10) (by decide) hs
 have e : (10 : Nat) ^ 9 = 1000000000 := by decide
 omega
theorem atoi_le {s : List UInt8} {n : Int} (h : Lib.atoiAll s = .ok n) (hs : s.length ≤ 9) : n ≤ 999999999 := by
 rw [Lib.atoiAll_short s (by omega)] at h
 cases ha : Lib.atoi s with
 | none => rw [ha] at h; cases h
 | some k =>
  rw [ha] at h
  have hk : k = n := by cases h; rfl
  subst hk
  obtain ⟨b0, r, rfl, hc⟩ := Lib.atoi_cases ha
  simp only [List.length_cons] at hs
  rcases hc with ⟨_, m, _, hm, rfl⟩ | ⟨_, m, _, hm, rfl⟩ | ⟨_, _, m, hm, rfl⟩
  ·have := dec_le hm (by omega); omega
  ·have := dec_le hm (by omega); omega
  ·have := dec_le hm (by simp only [List.length_cons]; omega); omega
theorem decV_num (s : List UInt8) : numD s = if (decV s).2 = true then some (decV s).1.toNat else none := by
 have h := intV_num s
 rw [h]
 have e : (decV s).2 = (intV s).2 ∧ ((intV s).2 = true → (decV s).1 = (intV s).1) := by
  unfold decV intV
  cases hv : Lib.atoiAll s with
  | ok n =>
   refine ⟨?_, fun _ => rfl⟩
   dsimp only
   by_cases h3 : decL n = s
   ·by_cases h1 : 0 ≤ n
    ·by_cases h2 : s.length ≤ 9
     ·have := atoi_le hv h2
      simp [h1, h2, this]
     ·have p9 : (10 : Nat) ^ (8 + 1) = 1000000000 := by decide
      have h4 : ¬ n ≤ 999999999 := fun h4 => h2 (by
       rw [← h3]
       exact digitsF_len9 (f := 8) (by omega))
      simp [h2, h4]
    ·simp [h1]
   ·simp [h3]
  | «syntax» => exact ⟨rfl, fun h => by cases h⟩
  | range => exact ⟨rfl, fun h => by cases h⟩
 rw [e.1]
 cases hb : (intV s).2 with
 | false => rfl
 | true => rw [if_pos rfl, if_pos rfl, e.2 hb]
section
variable {E : Oracle} (g : Good E)
include g
set_option maxRecDepth 100000
set_option maxHeartbeats 4000000 in
theorem r_Split10 (s : List UInt8) (hs : s.length ≤ 1000000) : Fc E n_ref10_Split [S s] (LS (parts 32 s)) := by
 refine g.fn rfl rfl ?_
 repeat' ((conv => whnf); first
 | refine Yz ?_)
 refine LoopW.to (LoopW.by (σ := Nat × List (List UInt8) × Nat) g
  (fun x => x.1 ≤ s.length + 1 ∧ x.2.1.length ≤ x.1 ∧ (x.1 ≤ s.length → x.2.2 ≤ x.1 ∧ parts 32 s = x.2.1 ++ parts 32 (s.drop x.2.2) ∧ ∀ j, x.2.2 ≤ j → j < x.1 → s.getD j 0 ≠ 32) ∧ (x.1 = s.length + 1 → parts 32 s = x.2.1))
  (fun x => [(0, S s), (3, .ref ⟨0, 3, 0⟩ 0 x.2.1.length x.2.1.length), (4, I x.2.2), (5, I x.1)])
  (fun x => [(⟨0, 2, 0⟩, .row false ty_string 1 0 []), (⟨0, 3, 0⟩, .row false ty_string 1 x.2.1.length (x.2.1.map D.str))])
  (fun x => s.length + 1 - x.1) ?_ (0, [], 0) ⟨by omega, by simp, fun _ => ⟨by simp, by simp, fun j _ h => absurd h (Nat.not_lt_zero _)⟩, fun h => by simp at h⟩) rfl rfl
 rintro ⟨i, dn, f⟩ ⟨h1, h2, h3, h4⟩ ih
 simp only at h1 h2 h3 h4 ih
 dsimp only
 have hml : (dn.map D.str).length = dn.length := List.length_map _
 by_cases hi : i ≤ s.length
 ·obtain ⟨hf, hp, hn⟩ := h3 hi
  clear h3 h4
  have hnw : (32 : UInt8) ∉ win s f (i - f) := fun hm => by
   obtain ⟨j, j1, j2, _, j4⟩ := mem_win hm
   exact hn j j1 j2 j4
  have hd := drop_eq_win (s := s) hf
  by_cases he : i = s.length
  ·have hlast : parts 32 s = dn ++ [win s f (i - f)] := by
    rw [hp, hd, List.drop_eq_nil_of_le (by omega), List.append_nil, parts_word 32 _ hnw]
   have ih := ih (i + 1, dn ++ [win s f (i - f)], i + 1) ⟨by simp only; omega, by simp only [List.length_append, List.length_cons, List.length_nil]; omega, fun h => by simp only at h; omega, fun _ => hlast⟩ (by simp only; omega)
   simp only [List.length_append, List.length_cons, List.length_nil, List.map_append, List.map_cons, List.map_nil] at ih
   repeat' ((conv => whnf); first
   | refine Yz ?_
    | (refine Bounds.mk (by omega) ?_)
    | (refine Need.mk (by simp only [List.length_cons, List.length_nil]; omega) ?_)
    | (refine LoopW.to ih rfl rfl))
  ·have hlt : i < s.length := by omega
   have hb := s.getD i 0 |>.toNat_lt
   by_cases hc : s.getD i 0 = 32
   ·have hcons : s.drop i = 32 :: s.drop (i + 1) := by
     rw [List.drop_eq_getElem_cons hlt]
     have : s[i] = 32 := by simpa [List.getD, hlt] using hc
     rw [this]
    have hnext : parts 32 s = (dn ++ [win s f (i - f)]) ++ parts 32 (s.drop (i + 1)) := by
     rw [hp, hd, hcons, parts_append 32 _ _ hnw]
     simp
    have hc' : (s.getD i 0).toNat = 32 := by rw [hc]; rfl
    have ih := ih (i + 1, dn ++ [win s f (i - f)], i + 1) ⟨by simp only; omega, by simp only [List.length_append, List.length_cons, List.length_nil]; omega, fun _ => ⟨by simp only; omega, hnext, fun j j1 j2 => by simp only at j1 j2; omega⟩, fun h => by simp only at h; omega⟩ (by simp only; omega)
    simp only [List.length_append, List.length_cons, List.length_nil, List.map_append, List.map_cons, List.map_nil] at ih
    repeat' ((conv => whnf); first
    | refine Yz ?_
     | (refine PickB.at i (by omega) hlt ?_)
     | (refine Bounds.mk (by omega) ?_)
     | (refine Need.mk (by simp only [List.length_cons, List.length_nil]; omega) ?_)
     | (refine LoopW.to ih rfl rfl))
   ·have hc' : (s.getD i 0).toNat ≠ 32 := fun e => hc (UInt8.toNat_inj.1 e)
    have ih := ih (i + 1, dn, f) ⟨by simp only; omega, by simp only; omega, fun _ => ⟨by simp only; omega, hp, fun j j1 j2 => by
     simp only at j2
     by_cases e : j = i
     ·subst e; exact hc
     ·exact hn j j1 (by omega)⟩, fun h => by simp only at h; omega⟩ (by simp only; omega)
    simp only at ih
    repeat' ((conv => whnf); first
    | refine Yz ?_
     | (refine PickB.at i (by omega) hlt ?_)
     | (refine LoopW.to ih rfl rfl))
 ·have hi' : i = s.length + 1 := by omega
  rw [h4 hi']
  repeat' ((conv => whnf); first
  | refine Yz ?_
   | (refine Ret.mk ?_))
  rw [if_pos ⟨rfl, rfl⟩]
theorem s_decimal (s : List UInt8) (hs : s.length ≤ 1000000) : Fc E n_office_decimal [S s] (.tup [I (decV s).1, B (decV s).2]) := by
 refine g.fn rfl rfl ?_
 unfold decV
 cases hv : Lib.atoiAll s with
 | ok n =>
  have hx : atoiX [S s] [] = some (.tup [I n, .d .nili], []) := by simp only [atoiX, hv]; rw [if_pos hs]
  dsimp only
  by_cases h2 : s.length ≤ 9
  ·by_cases h1 : 0 ≤ n
   ·by_cases h4 : n ≤ 9223372036854775807
    ·have hd : Fc E n_strconv_Itoa [I n] (S (decL n)) := s_Itoa g n ⟨h1, h4⟩
     rw [decide_eq_true h1, decide_eq_true h2]
     by_cases h3 : decL n = s
     ·rw [decide_eq_true h3]
      repeat' ((conv => whnf); first
      | refine Yz ?_
       | (refine CallS.ext g rfl hx rfl ?_)
       | (apply CallI.of; assumption)
       | (refine Cmp.tt h3 ?_)
       | (exact Ret.mk rfl)
       | fail)
     ·rw [decide_eq_false h3]
      repeat' ((conv => whnf); first
      | refine Yz ?_
       | (refine CallS.ext g rfl hx rfl ?_)
       | (apply CallI.of; assumption)
       | (refine Cmp.ff h3 ?_)
       | (exact Ret.mk rfl)
       | fail)
    ·exact absurd (atoi_le hv h2) (by omega)
   ·rw [decide_eq_false h1, decide_eq_true h2]
    repeat' ((conv => whnf); first
    | refine Yz ?_
     | (refine CallS.ext g rfl hx rfl ?_)
     | (exact Ret.mk rfl)
     | fail)
  ·rw [decide_eq_false h2]
   repeat' ((conv => whnf); first
   | refine Yz ?_
    | (refine CallS.ext g rfl hx rfl ?_)
    | (exact Ret.mk rfl)
    | fail)
 | «syntax» =>
  have hx : atoiX [S s] [] = some (.tup [I 0, .d (.ifc true)], []) := by simp only [atoiX, hv]; rw [if_pos hs]
  dsimp only
  repeat' ((conv => whnf); first
  | refine Yz ?_
   | (refine CallS.ext g rfl hx rfl ?_)
   | (exact Ret.mk rfl)
   | fail)
 | range =>
  have hx : atoiX [S s] [] = some (.tup [I (Lib.atoiSat s), .d (.ifc true)], []) := by simp only [atoiX, hv]; rw [if_pos hs]
  dsimp only
  repeat' ((conv => whnf); first
  | refine Yz ?_
   | (refine CallS.ext g rfl hx rfl ?_)
   | (exact Ret.mk rfl)
   | fail)
theorem s_mapItoa (l : List Int) (hl : l.length ≤ 1000000) (hr : ∀ x ∈ l, 0 ≤ x ∧ x ≤ 999999999) : Fc E n_office_mapped_int_string [LI l, .d (.fn n_strconv_Itoa)] (Ws (l.map decL)) := by
 refine g.fn rfl rfl ?_
 repeat' ((conv => whnf); first
 | refine Yz ?_)
 refine LoopW.to (LoopW.up g (fun k => [(1, .d (.fn n_strconv_Itoa)), (5, .ref ⟨0, 5, 0⟩ 0 k k), (8, LI l), (9, I l.length), (10, I k)])
  (fun k => [(⟨0, 4, 0⟩, .row false ty_string 1 0 []), (⟨0, 5, 0⟩, .row false ty_string 1 k (((l.take k).map decL).map D.str))]) l.length (fun k hk ih => ?_) 0 (Nat.zero_le _)) rfl rfl
 have hml : (((l.take k).map decL).map D.str).length = k := by simp; omega
 by_cases hlt : k < l.length
 ·have ih := ih hlt
  have hx := o_Dec g l[k] (hr _ (List.getElem_mem hlt))
  rw [List.take_add_one, List.getElem?_eq_getElem hlt, Option.toList_some] at ih
  simp only [List.map_append, List.map_cons, List.map_nil] at ih
  repeat' ((conv => whnf); first
  | refine Yz ?_
   | (refine Pick.iw k rfl hlt ?_)
   | (apply CallI.of; assumption)
   | (refine Need.mk (by simp only [List.length_cons, List.length_nil]; omega) ?_)
   | (refine LoopW.to ih rfl rfl))
 ·obtain rfl : k = l.length := by omega
  rw [List.take_length]
  repeat' ((conv => whnf); first
  | refine Yz ?_
   | (refine Ret.mk ?_))
  rw [if_pos ⟨rfl, rfl⟩]
  simp
end
end Go.Proofs.YtcbddkeiohdocaaGreatDoor.Co
/-
 The words of an event, plain.
-/
namespace Go.Proofs.YtcbddkeiohdocaaGreatDoor.Co
open Go Go.Evl
def isInt (s : List UInt8) : Bool := (numD s).isSome
def intD (s : List UInt8) : Int := ((numD s).getD 0 : Nat)
def noE : Evt := ⟨0, [], [], [], []⟩
def okWs (k : List UInt8) (r : List (List UInt8)) : Bool := isKind k && decide (r.length = formN k + formV k) && !decide ([] ∈ r) && (r.drop (formN k)).all isInt
def evW (k : List UInt8) (r : List (List UInt8)) : Evt := ⟨0, k, r.take (formN k), (r.drop (formN k)).map intD, []⟩
def parE (s : List UInt8) : Option Evt := match parts 32 s with
 | [] => none
 | k :: r => if okWs k r = true then some (evW k r) else none
abbrev ParV (o : Option Evt) : V := .tup [Evv (o.getD noE), B o.isSome]
theorem intD_le (s : List UInt8) : 0 ≤ intD s ∧ intD s ≤ 999999999 := by
 unfold intD
 cases h : numD s with
 | none => exact ⟨Int.le_refl 0, by decide⟩
 | some n =>
  have := numD_lt h
  simp only [Option.getD_some]
  omega
theorem isInt_dec (s : List UInt8) : (decV s).2 = isInt s ∧ (isInt s = true → (decV s).1 = intD s) := by
 have h := decV_num s
 unfold isInt intD
 cases hb : (decV s).2 with
 | false => rw [hb, if_neg (by decide)] at h; rw [h]; exact ⟨rfl, fun h => by cases h⟩
 | true =>
  rw [hb, if_pos rfl] at h
  rw [h]
  refine ⟨rfl, fun _ => ?_⟩
  have : 0 ≤ (decV s).1 := by
   unfold decV at hb ⊢
   cases hv : Lib.atoiAll s with
   | ok n =>
    rw [hv] at hb
    simp only [Bool.and_eq_true, decide_eq_true_eq] at hb
    exact hb.1.2
   | «syntax» => rw [hv] at hb; cases hb
   | range => rw [hv] at hb; cases hb
  simp only [Option.getD_some]
  omega
theorem form_le (k : List UInt8) : formN k ≤ 3 ∧ formV k ≤ 4 := by
 rcases kind_cases k with rfl | rfl | rfl | rfl | rfl | rfl | ⟨h1, h2, h3, h4, h5, h6⟩
 all_goals (try (exact ⟨by decide, by decide⟩))
 unfold formN formV
 rw [if_neg h1, if_neg h2, if_neg h3, if_neg h4, if_neg h5, if_neg h6, if_neg h1, if_neg h2, if_neg h3, if_neg h4, if_neg h5, if_neg h6]
 omega
theorem part_len (b : UInt8) : ∀ (s p : List UInt8), p ∈ parts b s → p.length ≤ s.length
 | [], p, h => by
  simp only [parts, List.mem_singleton] at h
  subst h; exact Nat.le_refl 0
 | x :: r, p, h => by
  have ih := part_len b r
  unfold parts at h
  split at h
  ·rcases List.mem_cons.1 h with rfl | h
   ·simp
   ·have := ih p h
    simp only [List.length_cons]; omega
  ·cases hp : parts b r with
   | nil => rw [hp] at h; simp only [List.mem_singleton] at h; subst h; simp
   | cons q t =>
    rw [hp] at h ih
    rcases List.mem_cons.1 h with rfl | h
    ·have := ih q (by simp)
     simp only [List.length_cons]; omega
    ·have := ih p (List.mem_cons_of_mem _ h)
     simp only [List.length_cons]; omega
end Go.Proofs.YtcbddkeiohdocaaGreatDoor.Co
/-
 The reference's integers.
-/
namespace Go.Proofs.YtcbddkeiohdocaaGreatDoor.Co
open Go Go.Evl
abbrev IntV (s : List UInt8) : V := .tup [I (intD s), B (isInt s)]
theorem intN {s : List UInt8} (h : numD s = none) : IntV s = .tup [I 0, B false] := by
 simp only [IntV, intD, isInt, h]; rfl
theorem intS {s : List UInt8} {n : Nat} (h : numD s = some n) : IntV s = .tup [I n, B true] := by
 simp only [IntV, intD, isInt, h]; rfl
section
variable {E : Oracle} (g : Good E)
include g
set_option maxRecDepth 100000
theorem r_Integer (s : List UInt8) : Fc E n_ref10_Integer [S s] (IntV s) := by
 refine g.fn rfl rfl ?_
 have hb0 := toNat_u8 (s.getD 0 0)
 by_cases h0 : s.length = 0
 ·rw [intN (by unfold numD; rw [if_pos (.inl h0)])]
  repeat' ((conv => whnf); first
  | refine Yz ?_
   | (refine Ret.mk rfl))
 ·by_cases h9 : 9 < s.length
  ·rw [intN (by unfold numD; rw [if_pos (.inr (.inl h9))])]
   repeat' ((conv => whnf); first
   | refine Yz ?_
    | (refine Ret.mk rfl))
  ·by_cases hz : 1 < s.length ∧ (s.getD 0 0).toNat = 48
   ·have hz' : 1 < s.length ∧ s.head? = some 48 := by
     refine ⟨hz.1, ?_⟩
     cases s with
     | nil => exact absurd rfl h0
     | cons a r =>
      have : a.toNat = 48 := hz.2
      simp only [List.head?_cons, Option.some.injEq]
      exact UInt8.toNat_inj.1 this
    rw [intN (by unfold numD; rw [if_pos (.inr (.inr hz'))])]
    obtain ⟨hz1, hz2⟩ := hz
    repeat' ((conv => whnf); first
    | refine Yz ?_
     | (refine PickB.at 0 (by omega) (by omega) ?_)
     | (refine Ret.mk rfl))
   ·have hN : numD s = Lib.decFrom 0 s := by
     unfold numD
     rw [if_neg]
     rintro (h | h | ⟨h, h'⟩)
     ·exact h0 h
     ·exact h9 h
     ·refine hz ⟨h, ?_⟩
      cases s with
      | nil => exact absurd rfl h0
      | cons a r =>
       simp only [List.head?_cons, Option.some.injEq] at h'
       subst h'; rfl
    have hlen : 10 ^ s.length ≤ 10 ^ 9 := Nat.pow_le_pow_right (by decide) (by omega)
    have h9' : (10 : Nat) ^ 9 = 1000000000 := by decide
    repeat' ((conv => whnf); first
    | refine Yz ?_
     | (refine PickB.at 0 (by omega) (by omega) ?_)
     | (refine Cmp.mk (fun h => ?_) (fun h => ?_)) | (refine Rem.any (by omega) (fun r hr he => ?_)) | (refine Br.mk (fun h => ?_) (fun h => ?_))
     | (exfalso; omega))
    all_goals
     refine LoopW.to (LoopW.by (σ := Nat × Nat) g (fun x => x.1 ≤ s.length ∧ Lib.decFrom 0 (s.take x.1) = some x.2) (fun x => [(0, S s), (4, I x.2), (5, I x.1)]) (fun _ => []) (fun x => s.length - x.1) ?_ (0, 0) ⟨Nat.zero_le _, rfl⟩) rfl rfl
     rintro ⟨k, m⟩ ⟨hk, hm⟩ ih
     dsimp only at hk hm ih ⊢
     have hml : m < 1000000000 := by
      have h1 := Lib.decFrom_lt _ _ _ hm
      have h2 : 10 ^ (s.take k).length ≤ 10 ^ 9 := Nat.pow_le_pow_right (by decide) (by rw [List.length_take]; omega)
      simp only [Nat.zero_add, Nat.one_mul] at h1
      omega
     have hb := toNat_u8 (s.getD k 0)
     by_cases hlt : k < s.length
     ·have eg : s.getD k 0 = s[k] := by simp [List.getD, hlt]
      by_cases hd : 48 ≤ (s.getD k 0).toNat ∧ (s.getD k 0).toNat ≤ 57
      ·have dv : Lib.digitVal s[k] = some ((s.getD k 0).toNat - 48) := by
        unfold Lib.digitVal
        rw [← eg, if_pos hd]
       have hs := Lib.decFrom_take s k 0 m s[k] _ hm (List.getElem?_eq_getElem hlt) dv
       have ih := ih (k + 1, m * 10 + ((s.getD k 0).toNat - 48)) ⟨by dsimp only; omega, hs⟩ (by dsimp only; omega)
       dsimp only at ih
       have e : ((m * 10 + ((s.getD k 0).toNat - 48) : Nat) : Int) = 10 * (m : Int) + (((s.getD k 0).toNat : Int) - 48) := by omega
       rw [e] at ih
       repeat' ((conv => whnf); first
       | refine Yz ?_
        | (refine PickB.at k (by omega) hlt ?_)
        | (refine Wr.keep8 (by omega) ?_)
        | (refine Cmp.mk (fun h => ?_) (fun h => ?_)) | (refine Rem.any (by omega) (fun r hr he => ?_)) | (refine Br.mk (fun h => ?_) (fun h => ?_))
        | (refine LoopW.to ih rfl rfl)
        | (exfalso; omega))
      ·have hno : numD s = none := by
        rw [hN]
        cases hv : Lib.decFrom 0 s with
        | none => rfl
        | some n =>
         exfalso
         obtain ⟨d, hd'⟩ := Lib.digit_of_decFrom s 0 n hv k s[k] (List.getElem?_eq_getElem hlt)
         have := dv_of hd'
         rw [eg] at hd
         omega
       rw [intN hno]
       repeat' ((conv => whnf); first
       | refine Yz ?_
        | (refine PickB.at k (by omega) hlt ?_)
        | (refine Cmp.mk (fun h => ?_) (fun h => ?_)) | (refine Rem.any (by omega) (fun r hr he => ?_)) | (refine Br.mk (fun h => ?_) (fun h => ?_))
        | (refine Ret.mk rfl)
        | (exfalso; omega))
     ·obtain rfl : k = s.length := by omega
      rw [List.take_length] at hm
      rw [intS (hN.trans hm)]
      repeat' ((conv => whnf); first
      | refine Yz ?_
       | (refine Ret.mk rfl))
end
end Go.Proofs.YtcbddkeiohdocaaGreatDoor.Co
/-
 The reference's parser of events.
-/
namespace Go.Proofs.YtcbddkeiohdocaaGreatDoor.Co
open Go Go.Evl
theorem intL {s : List UInt8} (h : isInt s = false) : intD s = 0 := by
 unfold isInt at h
 unfold intD
 cases hn : numD s with
 | none => rfl
 | some n => rw [hn] at h; cases h
theorem okW_no {k : List UInt8} {r : List (List UInt8)} (h : [] ∈ r) : okWs k r = false := by
 unfold okWs
 rw [decide_eq_true h, Bool.not_true, Bool.and_false, Bool.false_and]
theorem okW_ni {k : List UInt8} {r : List (List UInt8)} (j : Nat) (hj : j < r.length) (hk : formN k ≤ j) (h : isInt r[j] = false) : okWs k r = false := by
 unfold okWs
 have : ((r.drop (formN k)).all isInt) = false := by
  rw [List.all_eq_false]
  exact ⟨r[j], List.mem_drop_iff_getElem.2 ⟨j - formN k, by omega, by congr 1; omega⟩, by rw [h]; decide⟩
 rw [this, Bool.and_false]
section
variable {E : Oracle} (g : Good E)
include g
set_option maxRecDepth 100000
set_option maxHeartbeats 4000000 in
theorem r_Parsed (s : List UInt8) (hs : s.length ≤ 1000000) : Fc E n_ref10_Parsed [S s] (ParV (parE s)) := by
 refine g.fn rfl rfl ?_
 have hsp := r_Split10 g s hs
 have hl := parts_len 32 s
 unfold parE
 obtain ⟨k, r, hp⟩ : ∃ k r, parts 32 s = k :: r := by
  cases h : parts 32 s with
  | nil => exact absurd h (parts_ne 32 s)
  | cons k r => exact ⟨k, r, rfl⟩
 rw [hp] at hsp hl ⊢
 simp only [List.length_cons] at hl
 dsimp only
 have hkl : (k :: r).length = r.length + 1 := rfl
 have hf := r_Form g k
 have ⟨hf1, hf2⟩ := form_le k
 by_cases hk : isKind k = true
 ·by_cases hn : r.length = formN k + formV k
  ·unfold Frm at hf
   rw [hk] at hf
   repeat' ((conv => whnf); first
   | refine Yz ?_
    | (apply CallI.of; assumption)
    | fail)
   refine LoopW.to (LoopW.by (σ := Nat × List (List UInt8) × List Int) g
    (fun x => x.1 ≤ r.length ∧ x.2.1 = r.take (min x.1 (formN k)) ∧ x.2.2 = ((r.drop (formN k)).take (x.1 - formN k)).map intD ∧ (∀ j, (hj : j < r.length) → j < x.1 → r[j] ≠ [] ∧ (formN k ≤ j → isInt r[j] = true)))
    (fun x => [(2, .ptr ⟨0, 2, 2⟩ 0 0), (4, LS (k :: r)), (5, .ptr ⟨0, 5, 0⟩ 0 0), (6, .ptr ⟨0, 6, 2⟩ 0 0), (7, I (x.1 + 1 : Nat))])
    (fun x => [(⟨0, 2, 0⟩, .row false ty_string 1 0 []), (⟨0, 2, 1⟩, .row false ty_int 1 0 []), (⟨0, 2, 2⟩, .cells ty_api_Event [I 0, S [], .ref ⟨0, 2, 0⟩ 0 0 0, .ref ⟨0, 2, 1⟩ 0 0 0, S []]),
     (⟨0, 5, 0⟩, .cells ty_turnroundref10_form [I (formN k), I (formV k), B true]),
     (⟨0, 34, 0⟩, .row false ty_string 1 x.2.1.length (x.2.1.map D.str)), (⟨0, 34, 1⟩, .row false ty_int 1 x.2.2.length (x.2.2.map DI)), (⟨0, 6, 0⟩, .row false ty_string 1 0 []), (⟨0, 6, 1⟩, .row false ty_int 1 0 []),
     (⟨0, 6, 2⟩, .cells ty_api_Event [I 0, S k, .ref ⟨0, 34, 0⟩ 0 x.2.1.length x.2.1.length, .ref ⟨0, 34, 1⟩ 0 x.2.2.length x.2.2.length, S []])])
    (fun x => r.length - x.1) ?_ (0, [], []) ⟨Nat.zero_le _, by simp, by simp, fun j _ h => absurd h (Nat.not_lt_zero _)⟩) rfl rfl
   rintro ⟨j, ns, vs⟩ ⟨h1, h2, h3, h4⟩ ih
   simp only at h1 h2 h3 h4 ih
   dsimp only
   have hnl : ns.length = min j (formN k) := by rw [h2, List.length_take]; omega
   have hvl : vs.length = j - formN k := by rw [h3, List.length_map, List.length_take, List.length_drop]; omega
   have hm1 : (ns.map D.str).length = ns.length := List.length_map _
   have hm2 : (vs.map DI).length = vs.length := List.length_map _
   by_cases hlt : j < r.length
   ·have hat : (k :: r)[j + 1]'(by rw [hkl]; omega) = r[j] := rfl
    have hint := r_Integer g r[j]
    by_cases he : r[j] = []
    ·have hok := okW_no (k := k) (r := r) (by rw [← he]; exact List.getElem_mem hlt)
     rw [hok]
     repeat' ((conv => whnf); first
     | refine Yz ?_
      | (refine Pick.ws (j + 1) (by omega) (by omega) ?_; rw [hat])
      | (refine Cmp.tt he ?_)
      | (refine Ret.mk ?_))
     rfl
    ·by_cases hjn : j < formN k
     ·have ih := ih (j + 1, ns ++ [r[j]], vs) ⟨by dsimp only; omega, by
       dsimp only
       rw [h2, Nat.min_eq_left (by omega), Nat.min_eq_left (by omega), List.take_add_one, List.getElem?_eq_getElem hlt]; rfl, by
       dsimp only
       rw [h3, show j + 1 - formN k = j - formN k by omega], fun i hi hj => by
       by_cases e : i = j
       ·subst e; exact ⟨he, fun h => by omega⟩
       ·exact h4 i hi (by dsimp only at hj; omega)⟩ (by dsimp only; omega)
      simp only [List.length_append, List.length_cons, List.length_nil, List.map_append, List.map_cons, List.map_nil] at ih
      repeat' ((conv => whnf); first
      | refine Yz ?_
       | (refine Pick.ws (j + 1) (by omega) (by omega) ?_; rw [hat])
       | (refine Cmp.ff he ?_)
       | (refine Need.mk (by simp only [List.length_cons, List.length_nil]; omega) ?_)
       | (refine LoopW.to ih rfl rfl))
     ·cases hi : isInt r[j] with
      | false =>
       rw [okW_ni (k := k) j hlt (by omega) hi]
       have hi0 := intL hi
       unfold IntV at hint
       rw [hi, hi0] at hint
       repeat' ((conv => whnf); first
       | refine Yz ?_
        | (refine Pick.ws (j + 1) (by omega) (by omega) ?_; rw [hat])
        | (refine Cmp.ff he ?_)
        | (apply CallI.of; assumption)
        | (refine Ret.mk ?_))
       rfl
      | true =>
       have ih := ih (j + 1, ns, vs ++ [intD r[j]]) ⟨by dsimp only; omega, by
        dsimp only
        rw [h2, Nat.min_eq_right (by omega), Nat.min_eq_right (by omega)], by
        dsimp only
        rw [h3, show j + 1 - formN k = (j - formN k) + 1 by omega, List.take_add_one, List.getElem?_drop, show formN k + (j - formN k) = j by omega, List.getElem?_eq_getElem hlt]
        simp, fun i hi' hj => by
        by_cases e : i = j
        ·subst e; exact ⟨he, fun _ => hi⟩
        ·exact h4 i hi' (by dsimp only at hj; omega)⟩ (by dsimp only; omega)
       simp only [List.length_append, List.length_cons, List.length_nil, List.map_append, List.map_cons, List.map_nil] at ih
       unfold IntV at hint
       rw [hi] at hint
       repeat' ((conv => whnf); first
       | refine Yz ?_
        | (refine Pick.ws (j + 1) (by omega) (by omega) ?_; rw [hat])
        | (refine Cmp.ff he ?_)
        | (apply CallI.of; assumption)
        | (refine Need.mk (by simp only [List.length_cons, List.length_nil]; omega) ?_)
        | (refine LoopW.to ih rfl rfl))
   ·obtain rfl : j = r.length := by omega
    have hok : okWs k r = true := by
     unfold okWs
     have e1 : ¬ [] ∈ r := fun h => by
      obtain ⟨i, hi, e⟩ := List.mem_iff_getElem.1 h
      exact (h4 i hi hi).1 e
     have e2 : ((r.drop (formN k)).all isInt) = true := by
      rw [List.all_eq_true]
      intro x hx
      obtain ⟨i, hi, rfl⟩ := List.mem_drop_iff_getElem.1 hx
      exact (h4 (formN k + i) (by omega) (by omega)).2 (by omega)
     rw [hk, decide_eq_true hn, decide_eq_false e1, e2]; rfl
    have en : ns = r.take (formN k) := by rw [h2, Nat.min_eq_right (by omega)]
    have ev : vs = (r.drop (formN k)).map intD := by rw [h3, List.take_of_length_le (by rw [List.length_drop]; omega)]
    rw [if_pos hok]
    repeat' ((conv => whnf); first
    | refine Yz ?_
     | (refine Need.mk ⟨rfl, Nat.le_refl _⟩ ?_)
     | (refine Ret.mk ?_))
    rw [if_pos ⟨rfl, rfl⟩, if_pos ⟨rfl, rfl⟩, en, ev]
    rfl
  ·have hok : okWs k r = false := by
    unfold okWs
    rw [decide_eq_false hn, Bool.and_false, Bool.false_and, Bool.false_and]
   rw [hok]
   unfold Frm at hf
   rw [hk] at hf
   repeat' ((conv => whnf); first
   | refine Yz ?_
    | (apply CallI.of; assumption)
    | (refine Cmp.mk (fun h => ?_) (fun h => ?_)) | (refine Rem.any (by omega) (fun r hr he => ?_)) | (refine Br.mk (fun h => ?_) (fun h => ?_))
    | (refine Ret.mk ?_)
    | (exfalso; omega))
   all_goals rfl
 ·have hok : okWs k r = false := by
   unfold okWs
   rw [Bool.eq_false_iff.2 hk]; rfl
  rw [hok]
  unfold Frm at hf
  rw [Bool.eq_false_iff.2 hk] at hf
  repeat' ((conv => whnf); first
  | refine Yz ?_
   | (apply CallI.of; assumption)
   | (refine Ret.mk ?_))
  all_goals rfl
end
end Go.Proofs.YtcbddkeiohdocaaGreatDoor.Co
/-
 Texts in lists.
-/
namespace Go.Proofs.YtcbddkeiohdocaaGreatDoor.Co
open Go Go.Evl
def idxG : List (List UInt8) → List UInt8 → Nat → Int
 | [], _, _ => -1
 | x :: r, s, k => if s = x then k else idxG r s (k + 1)
theorem idxG_mem (s : List UInt8) : ∀ (l : List (List UInt8)) (k : Nat), 0 ≤ idxG l s k ↔ s ∈ l
 | [], k => by simp [idxG]
 | x :: r, k => by
  unfold idxG
  split
  ·rename_i h
   simp [h]
  ·rename_i h
   rw [idxG_mem s r]
   simp [h]
theorem idxG_drop (l : List (List UInt8)) (s : List UInt8) (k : Nat) (h : k < l.length) : idxG (l.drop k) s k = if s = l[k] then (k : Int) else idxG (l.drop (k + 1)) s (k + 1) := by
 rw [List.drop_eq_getElem_cons h]
 rfl
section
variable {E : Oracle} (g : Good E)
include g
set_option maxRecDepth 100000
theorem s_IndexS (l : List (List UInt8)) (s : List UInt8) (hl : l.length ≤ 140737488355328) : Fc E n_slices_Index_Lstring_string [.d (.list l.length (l.map D.str)), S s] (I (idxG l s 0)) := by
 refine g.fn rfl rfl ?_
 conv => whnf
 refine LoopW.upP g (fun k => [(0, .d (.list l.length (l.map D.str))), (1, S s), (7, I l.length), (8, I k)]) (fun _ => []) (fun k => idxG l s 0 = idxG (l.drop k) s k) l.length (fun k hk hp ih => ?_) 0 (Nat.zero_le _) (by simp)
 by_cases hlt : k < l.length
 ·have hd := idxG_drop l s k hlt
  have hg : (l.map D.str)[((k : Int)).toNat * 1]? = some (.str l[k]) := by simp [hlt]
  by_cases he : s = l[k]
  ·rw [hp, hd, if_pos he]
   repeat' ((conv => whnf); first
   | refine Yz ?_
    | (refine Pick.now hg ?_)
    | (refine Cmp.tt he ?_)
    | (refine Ret.mk rfl))
  ·have ih := ih hlt (by rw [hp, hd, if_neg he])
   repeat' ((conv => whnf); first
   | refine Yz ?_
    | (refine Pick.now hg ?_)
    | (refine Cmp.ff he ?_)
    | (refine LoopW.to ih rfl rfl))
 ·have : l.drop k = [] := List.drop_eq_nil_of_le (by omega)
  rw [hp, this]
  repeat' ((conv => whnf); first
  | refine Yz ?_
   | (refine Ret.mk rfl))
theorem s_ContainsS (l : List (List UInt8)) (s : List UInt8) (hl : l.length ≤ 140737488355328) : Fc E n_slices_Contains_Lstring_string [.d (.list l.length (l.map D.str)), S s] (B (decide (s ∈ l))) := by
 refine g.fn rfl rfl ?_
 have h := s_IndexS g l s hl
 have hm := idxG_mem s l 0
 generalize idxG l s 0 = r at *
 by_cases hr : 0 ≤ r
 ·rw [decide_eq_true (hm.1 hr)]
  repeat' ((conv => whnf); first
  | refine Yz ?_
   | (apply CallI.of; assumption)
   | (refine Ret.mk rfl))
 ·rw [decide_eq_false fun h => hr (hm.2 h)]
  repeat' ((conv => whnf); first
  | refine Yz ?_
   | (apply CallI.of; assumption)
   | (refine Ret.mk rfl))
end
end Go.Proofs.YtcbddkeiohdocaaGreatDoor.Co
/-
 The program's parser of events.
-/
namespace Go.Proofs.YtcbddkeiohdocaaGreatDoor.Co
open Go Go.Evl
theorem kd_some {k : List UInt8} (h : isKind k = true) : ∃ a b : Nat, findE (.str k) kdM = some (some (.agg [.d (DI (formN k)), .d (DI (formV k)), .fn a [] [], .fn b [] []])) := by
 rcases kind_cases k with rfl | rfl | rfl | rfl | rfl | rfl | ⟨h1, h2, h3, h4, h5, h6⟩
 ·exact ⟨_, _, rfl⟩
 ·exact ⟨_, _, rfl⟩
 ·exact ⟨_, _, rfl⟩
 ·exact ⟨_, _, rfl⟩
 ·exact ⟨_, _, rfl⟩
 ·exact ⟨_, _, rfl⟩
 ·exfalso
  unfold isKind at h
  simp only [Bool.or_eq_true, decide_eq_true_eq] at h
  rcases h with ((((h | h) | h) | h) | h) | h
  ·exact h1 h
  ·exact h2 h
  ·exact h3 h
  ·exact h4 h
  ·exact h5 h
  ·exact h6 h
theorem kd_no {k : List UInt8} (h : isKind k = false) : findE (.str k) kdM = some none := by
 unfold isKind at h
 simp only [Bool.or_eq_false_iff, decide_eq_false_iff_not] at h
 exact kd_none ⟨h.1.1.1.1.1, h.1.1.1.1.2, h.1.1.1.2, h.1.1.2, h.1.2, h.2⟩
theorem ws_tl (w : List UInt8) (r : List (List UInt8)) : win ((w :: r).map D.str) (1 * 1) (((w :: r).length - 1) * 1) = r.map D.str := by
 unfold win
 rw [List.map_cons, Nat.mul_one, List.drop_one, List.tail_cons, List.take_of_length_le (by simp)]
section
variable {E : Oracle} (g : Good E)
include g
set_option maxRecDepth 100000
theorem in_word {lv t : Nat} {m : Mem} (w : List UInt8) (r : List (List UInt8)) (hr : r.length ≤ 1000000) (h : Evl.look m ⟨0, 16, 0⟩ = some (.cells t [LS (w :: r)])) {K : V → Mem → Prop} (hK : K (S w) (Evl.upd m ⟨0, 16, 0⟩ (.cells t [LS r]))) : In E lv n_office_reader_word [.ptr ⟨0, 16, 0⟩ 0 0] m K := by
 refine In.enter (f := n_office_reader_word) g.lim rfl rfl ?_
 have hkl : (w :: r).length = r.length + 1 := rfl
 repeat' ((conv => whnf); first
 | refine Yz ?_
  | (rw [lookK_eq, h])
  | (rw [updK_eq])
  | (refine Pick.ws 0 rfl (by omega) ?_)
  | (refine Need.mk (by simp only [List.length_cons]; omega) ?_)
  | (refine Bounds.at 1 (w :: r).length rfl rfl (by simp) ?_ <;> (try dsimp only) <;> (rw [ws_tl]))
  | (exact hK))
set_option maxHeartbeats 16000000 in
theorem s_parse (s : List UInt8) (hs : s.length ≤ 1000000) : Fc E n_office_parse [S s] (ParV (parE s)) := by
 refine g.fn rfl rfl ?_
 have hsp := s_Split g s hs
 have hl := parts_len 32 s
 unfold parE
 obtain ⟨k, r, hp⟩ : ∃ k r, parts 32 s = k :: r := by
  cases h : parts 32 s with
  | nil => exact absurd h (parts_ne 32 s)
  | cons k r => exact ⟨k, r, rfl⟩
 have hpl : ∀ w ∈ r, w.length ≤ 1000000 := fun w hw => by
  have := part_len 32 s w (by rw [hp]; exact List.mem_cons_of_mem _ hw)
  omega
 rw [hp] at hsp hl ⊢
 simp only [List.length_cons] at hl
 dsimp only
 have hkl : (k :: r).length = r.length + 1 := rfl
 have hct := s_ContainsS g (k :: r) [] (by omega)
 have ⟨hf1, hf2⟩ := form_le k
 cases hk : isKind k with
 | false =>
  have hok : okWs k r = false := by
   unfold okWs
   rw [hk]; rfl
  rw [hok]
  have hfind := kd_no hk
  repeat' ((conv => whnf); first
  | refine Yz ?_
   | (apply CallI.of; assumption)
   | (refine in_word g k r (by omega) rfl ?_)
   | (refine CallS.kinds g rfl ?_)
   | (refine Find.mk ⟨_, hfind, ?_⟩)
   | (refine Ret.mk ?_)
   | fail)
  rfl
 | true =>
  obtain ⟨fa, fb, hfind⟩ := kd_some hk
  by_cases hn : r.length = formN k + formV k
  ·by_cases he : [] ∈ k :: r
   ·have her : [] ∈ r := by
     rcases List.mem_cons.1 he with e | h
     ·rw [← e] at hk; cases hk
     ·exact h
    rw [decide_eq_true he] at hct
    rw [okW_no her]
    repeat' ((conv => whnf); first
    | refine Yz ?_
     | (apply CallI.of; assumption)
     | (refine in_word g k r (by omega) rfl ?_)
     | (refine CallS.kinds g rfl ?_)
     | (refine Find.mk ⟨_, hfind, ?_⟩)
     | (refine Ret.mk rfl)
     | fail)
   ·rw [decide_eq_false he] at hct
    have hner : ∀ j, (hj : j < r.length) → r[j] ≠ [] := fun j hj e => he (List.mem_cons_of_mem _ (by rw [← e]; exact List.getElem_mem hj))
    repeat' ((conv => whnf); first
    | refine Yz ?_
     | (apply CallI.of; assumption)
     | (refine in_word g k r (by omega) rfl ?_)
     | (refine CallS.kinds g rfl ?_)
     | (refine Find.mk ⟨_, hfind, ?_⟩)
     | fail)
    refine LoopW.to (LoopW.by (σ := Nat × List (List UInt8) × List (List UInt8)) g (fun x => x.1 ≤ formN k ∧ x.2.1 = r.take x.1 ∧ x.2.2 = r.drop x.1)
     (fun x => [(2, .ptr ⟨0, 2, 2⟩ 0 0), (6, .fn n_office_reader_word [.ptr ⟨0, 16, 0⟩ 0 0] []), (7, .ptr ⟨0, 7, 2⟩ 0 0), (8, .ptr ⟨0, 8, 0⟩ 0 0), (48, I (formN k)), (49, I x.1)])
     (fun x => [(⟨0, 2, 0⟩, .row false ty_string 1 0 []), (⟨0, 2, 1⟩, .row false ty_int 1 0 []), (⟨0, 2, 2⟩, .cells ty_api_Event [I 0, S [], .ref ⟨0, 2, 0⟩ 0 0 0, .ref ⟨0, 2, 1⟩ 0 0 0, S []]), (⟨0, 16, 0⟩, .cells ty_office_reader [LS x.2.2]),
      (⟨0, 21, 0⟩, .row false ty_string 1 x.2.1.length (x.2.1.map D.str)), (⟨0, 21, 1⟩, .row false ty_int 1 0 []), (⟨0, 7, 0⟩, .row false ty_string 1 0 []), (⟨0, 7, 1⟩, .row false ty_int 1 0 []),
      (⟨0, 7, 2⟩, .cells ty_api_Event [I 0, S k, .ref ⟨0, 21, 0⟩ 0 x.2.1.length x.2.1.length, .ref ⟨0, 21, 1⟩ 0 0 0, S []]), (⟨0, 23, 0⟩, .map kdM), (⟨0, 8, 0⟩, .cells ty_office_kind [I (formN k), I (formV k), .fn fa [] [], .fn fb [] []])])
     (fun x => formN k - x.1) ?_ (0, [], r) ⟨Nat.zero_le _, rfl, rfl⟩) rfl rfl
    rintro ⟨j, ns, rest⟩ ⟨h1, h2, h3⟩ ih
    simp only at h1 h2 h3 ih
    dsimp only
    have hnl : ns.length = j := by rw [h2, List.length_take]; omega
    have hm1 : (ns.map D.str).length = ns.length := List.length_map _
    by_cases hlt : j < formN k
    ·have hjr : j < r.length := by omega
     rw [List.drop_eq_getElem_cons hjr] at h3
     have ih := ih (j + 1, ns ++ [r[j]], r.drop (j + 1)) ⟨by dsimp only; omega, by
      dsimp only
      rw [h2, List.take_add_one, List.getElem?_eq_getElem hjr]; rfl, rfl⟩ (by dsimp only; omega)
     simp only [List.length_append, List.length_cons, List.length_nil, List.map_append, List.map_cons, List.map_nil] at ih
     have hdl : (r.drop (j + 1)).length ≤ 1000000 := by rw [List.length_drop]; omega
     generalize r.drop (j + 1) = tl at *
     generalize r[j] = w at *
     subst h3
     repeat' ((conv => whnf); first
     | refine Yz ?_
      | (refine in_word g w tl hdl rfl ?_)
      | (refine Chk.mk (by simp [keptV, keptO, sameVL, sameV, sameD, Evl.look]) ?_)
      | (refine Need.mk (by simp only [List.length_cons, List.length_nil]; omega) ?_)
      | (refine LoopW.to ih rfl rfl))
    ·obtain rfl : j = formN k := by omega
     repeat' ((conv => whnf); first
     | refine Yz ?_
      | fail)
     have hdl : (r.drop (formN k)).length = formV k := by rw [List.length_drop]; omega
     refine LoopW.to (LoopW.by (σ := Nat × List Int × List (List UInt8)) g (fun x => x.1 ≤ formV k ∧ x.2.1 = ((r.drop (formN k)).take x.1).map intD ∧ x.2.2 = (r.drop (formN k)).drop x.1 ∧ ∀ j, (hj : j < (r.drop (formN k)).length) → j < x.1 → isInt (r.drop (formN k))[j] = true)
      (fun x => [(2, .ptr ⟨0, 2, 2⟩ 0 0), (6, .fn n_office_reader_word [.ptr ⟨0, 16, 0⟩ 0 0] []), (7, .ptr ⟨0, 7, 2⟩ 0 0), (60, I (formV k)), (61, I x.1)])
      (fun x => [(⟨0, 2, 0⟩, .row false ty_string 1 0 []), (⟨0, 2, 1⟩, .row false ty_int 1 0 []), (⟨0, 2, 2⟩, .cells ty_api_Event [I 0, S [], .ref ⟨0, 2, 0⟩ 0 0 0, .ref ⟨0, 2, 1⟩ 0 0 0, S []]), (⟨0, 16, 0⟩, .cells ty_office_reader [LS x.2.2]),
       (⟨0, 21, 0⟩, .row false ty_string 1 ns.length (ns.map D.str)), (⟨0, 21, 1⟩, .row false ty_int 1 x.2.1.length (x.2.1.map DI)), (⟨0, 7, 0⟩, .row false ty_string 1 0 []), (⟨0, 7, 1⟩, .row false ty_int 1 0 []),
       (⟨0, 7, 2⟩, .cells ty_api_Event [I 0, S k, .ref ⟨0, 21, 0⟩ 0 ns.length ns.length, .ref ⟨0, 21, 1⟩ 0 x.2.1.length x.2.1.length, S []]), (⟨0, 23, 0⟩, .map kdM), (⟨0, 8, 0⟩, .cells ty_office_kind [I (formN k), I (formV k), .fn fa [] [], .fn fb [] []])])
      (fun x => formV k - x.1) ?_ (0, [], rest) ⟨Nat.zero_le _, rfl, h3, fun j _ h => absurd h (Nat.not_lt_zero _)⟩) rfl rfl
     clear ih h3
     rintro ⟨j, vs, rest⟩ ⟨h1, h3, h4, h5⟩ ih
     simp only at h1 h3 h4 h5 ih
     dsimp only
     have hvl : vs.length = j := by rw [h3, List.length_map, List.length_take]; omega
     have hm2 : (vs.map DI).length = vs.length := List.length_map _
     by_cases hlt : j < formV k
     ·have hjr : j < (r.drop (formN k)).length := by omega
      have hwl : ((r.drop (formN k))[j]).length ≤ 1000000 := hpl _ (List.mem_of_mem_drop (List.getElem_mem hjr))
      have hdec := s_decimal g (r.drop (formN k))[j] hwl
      obtain ⟨hd1, hd2⟩ := isInt_dec (r.drop (formN k))[j]
      rw [hd1] at hdec
      have hdl' : ((r.drop (formN k)).drop (j + 1)).length ≤ 1000000 := by rw [List.length_drop]; omega
      rw [List.drop_eq_getElem_cons hjr] at h4
      cases hi : isInt (r.drop (formN k))[j] with
      | false =>
       have hok : okWs k r = false := by
        refine okW_ni (formN k + j) (by omega) (by omega) ?_
        rw [← hi]
        congr 1
        exact (List.getElem_drop ..).symm
       rw [hok]
       rw [hi] at hdec
       generalize (r.drop (formN k)).drop (j + 1) = tl at *
       generalize (r.drop (formN k))[j] = w at *
       subst h4
       repeat' ((conv => whnf); first
       | refine Yz ?_
        | (refine in_word g w tl hdl' rfl ?_)
        | (apply CallI.of; assumption)
        | (refine Ret.mk rfl)
        | fail)
      | true =>
       have ih := ih (j + 1, vs ++ [intD (r.drop (formN k))[j]], (r.drop (formN k)).drop (j + 1)) ⟨by dsimp only; omega, by
        dsimp only
        rw [h3, List.take_add_one, List.getElem?_eq_getElem hjr]
        simp, rfl, fun i hi' hj => by
        by_cases e : i = j
        ·subst e; exact hi
        ·exact h5 i hi' (by dsimp only at hj; omega)⟩ (by dsimp only; omega)
       simp only [List.length_append, List.length_cons, List.length_nil, List.map_append, List.map_cons, List.map_nil] at ih
       rw [hi, hd2 hi] at hdec
       generalize (r.drop (formN k)).drop (j + 1) = tl at *
       generalize (r.drop (formN k))[j] = w at *
       subst h4
       repeat' ((conv => whnf); first
       | refine Yz ?_
        | (refine in_word g w tl hdl' rfl ?_)
        | (apply CallI.of; assumption)
        | (refine Need.mk (by simp only [List.length_cons, List.length_nil]; omega) ?_)
        | (refine LoopW.to ih rfl rfl)
        | fail)
     ·obtain rfl : j = formV k := by omega
      have hok : okWs k r = true := by
       unfold okWs
       have e2 : ((r.drop (formN k)).all isInt) = true := by
        rw [List.all_eq_true]
        intro x hx
        obtain ⟨i, hi, rfl⟩ := List.mem_iff_getElem.1 hx
        exact h5 i hi (by omega)
       have e1 : ¬ [] ∈ r := fun h => he (List.mem_cons_of_mem _ h)
       rw [hk, decide_eq_true hn, decide_eq_false e1, e2]; rfl
      have ev : vs = (r.drop (formN k)).map intD := by rw [h3, List.take_of_length_le (by omega)]
      rw [if_pos hok]
      repeat' ((conv => whnf); first
      | refine Yz ?_
       | (refine Need.mk ⟨rfl, Nat.le_refl _⟩ ?_)
       | (refine Ret.mk ?_))
      rw [if_pos ⟨rfl, rfl⟩, if_pos ⟨rfl, rfl⟩, h2, ev]
      rfl
  ·have hok : okWs k r = false := by
    unfold okWs
    rw [decide_eq_false hn, Bool.and_false, Bool.false_and, Bool.false_and]
   rw [hok]
   repeat' ((conv => whnf); first
   | refine Yz ?_
    | (apply CallI.of; assumption)
    | (refine in_word g k r (by omega) rfl ?_)
    | (refine CallS.kinds g rfl ?_)
    | (refine Find.mk ⟨_, hfind, ?_⟩)
    | (refine Cmp.mk (fun h => ?_) (fun h => ?_)) | (refine Rem.any (by omega) (fun r hr he => ?_)) | (refine Br.mk (fun h => ?_) (fun h => ?_))
    | (refine Ret.mk rfl)
    | (exfalso; omega)
    | fail)
end
end Go.Proofs.YtcbddkeiohdocaaGreatDoor.Co
/-
 Plain laws: the lines of a text, each with its line feed.
-/
namespace Go.Proofs.YtcbddkeiohdocaaGreatDoor.Co
open Go Go.Evl
def pcs : List UInt8 → List (List UInt8)
 | [] => []
 | c :: r => if c = 10 then [10] :: pcs r else
  match pcs r with
  | [] => [[c]]
  | p :: q => (c :: p) :: q
theorem pcs_nil : pcs [] = [] := rfl
theorem pcs_lf : ∀ (a r : List UInt8), (10 : UInt8) ∉ a → pcs (a ++ 10 :: r) = (a ++ [10]) :: pcs r
 | [], r, _ => by simp [pcs]
 | c :: a, r, h => by
  have hc : ¬ c = 10 := fun e => h (by simp [e])
  have h' : (10 : UInt8) ∉ a := fun hm => h (by simp [hm])
  simp only [List.cons_append, pcs, if_neg hc, pcs_lf a r h']
theorem pcs_end : ∀ (a : List UInt8), a ≠ [] → (10 : UInt8) ∉ a → pcs a = [a]
 | [], h, _ => absurd rfl h
 | [c], _, h => by
  have hc : ¬ c = 10 := fun e => h (by simp [e])
  simp only [pcs, if_neg hc]
 | c :: d :: a, _, h => by
  have hc : ¬ c = 10 := fun e => h (by simp [e])
  have h' : (10 : UInt8) ∉ d :: a := fun hm => h (List.mem_cons_of_mem _ hm)
  have := pcs_end (d :: a) (by simp) h'
  rw [pcs, if_neg hc, this]
theorem lf_split : ∀ s : List UInt8, (10 : UInt8) ∈ s → ∃ a r, s = a ++ 10 :: r ∧ (10 : UInt8) ∉ a
 | [], h => absurd h List.not_mem_nil
 | c :: s, h => by
  by_cases e : c = 10
  ·exact ⟨[], s, by rw [e]; rfl, List.not_mem_nil⟩
  ·obtain ⟨a, r, h1, h2⟩ := lf_split s ((List.mem_cons.1 h).resolve_left fun x => e x.symm)
   exact ⟨c :: a, r, by rw [h1]; rfl, fun hm => (List.mem_cons.1 hm).elim (fun x => e x.symm) h2⟩
theorem pcs_cases (s : List UInt8) (h : s ≠ []) : ((10 : UInt8) ∉ s ∧ pcs s = [s]) ∨ ∃ a r, (10 : UInt8) ∉ a ∧ s = a ++ 10 :: r ∧ pcs s = (a ++ [10]) :: pcs r := by
 by_cases hm : (10 : UInt8) ∈ s
 ·obtain ⟨a, r, e, ha⟩ := lf_split s hm
  exact .inr ⟨a, r, ha, e, by rw [e]; exact pcs_lf a r ha⟩
 ·exact .inl ⟨hm, pcs_end s h hm⟩
def wholeB (p : List UInt8) : Bool := decide (p.getLast? = some 10)
def endW (p : List UInt8) : List UInt8 := if wholeB p then p.dropLast else p
theorem whole_lf (a : List UInt8) : wholeB (a ++ [10]) = true ∧ endW (a ++ [10]) = a := by
 have h : wholeB (a ++ [10]) = true := by simp [wholeB]
 refine ⟨h, ?_⟩
 unfold endW
 rw [if_pos h]
 simp
theorem whole_eq {p : List UInt8} (h : wholeB p = true) : p = endW p ++ [10] := by
 unfold endW
 rw [if_pos h]
 unfold wholeB at h
 have h := of_decide_eq_true h
 obtain ⟨ys, e⟩ := List.getLast?_eq_some_iff.1 h
 rw [e]; simp
end Go.Proofs.YtcbddkeiohdocaaGreatDoor.Co
/-
 A text cut off at its last line feed.
-/
namespace Go.Proofs.YtcbddkeiohdocaaGreatDoor.Co
open Go Go.Evl
theorem suffix_lf (s : List UInt8) : Lib.hasSuffix s [10] = wholeB s := by
 unfold Lib.hasSuffix wholeB
 rw [Bool.eq_iff_iff, List.isSuffixOf_iff_suffix, decide_eq_true_eq, List.getLast?_eq_some_iff]
 exact ⟨fun ⟨t, e⟩ => ⟨t, e.symm⟩, fun ⟨t, e⟩ => ⟨t, e.symm⟩⟩
theorem endW_win {p : List UInt8} (h : wholeB p = true) : 1 ≤ p.length ∧ endW p = p.take (p.length - 1) := by
 have e := whole_eq h
 constructor
 ·rw [e]; simp
 ·unfold endW
  rw [if_pos h, List.dropLast_eq_take]
theorem indexByte_lf : ∀ (a r : List UInt8), (10 : UInt8) ∉ a → Lib.indexByte (a ++ 10 :: r) 10 = a.length
 | [], _, _ => rfl
 | c :: a, r, h => by
  have hc : (c == 10) = false := beq_eq_false_iff_ne.2 fun e => h (by simp [e])
  have ih := indexByte_lf a r fun hm => h (by simp [hm])
  simp only [List.cons_append, Lib.indexByte, hc, ih, List.length_cons]
  rw [if_neg (by decide), if_neg (by simp)]
  omega
theorem indexByte_no : ∀ (a : List UInt8), (10 : UInt8) ∉ a → Lib.indexByte a 10 = -1
 | [], _ => rfl
 | c :: a, h => by
  have hc : (c == 10) = false := beq_eq_false_iff_ne.2 fun e => h (by simp [e])
  have ih := indexByte_no a fun hm => h (by simp [hm])
  simp only [Lib.indexByte, hc, ih]
  rfl
theorem win_head (a r : List UInt8) : win (a ++ 10 :: r) 0 (a.length + 1 - 0) = a ++ [10] := by
 unfold win
 rw [List.drop_zero, Nat.sub_zero, show a ++ 10 :: r = (a ++ [10]) ++ r by simp, List.take_append_of_le_length (by simp), List.take_of_length_le (by simp)]
theorem win_tail (a r : List UInt8) : win (a ++ 10 :: r) (a.length + 1) ((a ++ 10 :: r).length - (a.length + 1)) = r := by
 unfold win
 rw [show a ++ 10 :: r = (a ++ [10]) ++ r by simp, List.drop_left' (by simp), List.take_of_length_le (by simp; omega)]
theorem win_all (s : List UInt8) : win s 0 (s.length - 0) = s := by simp [win]
section
variable {E : Oracle} (g : Good E)
include g
set_option maxRecDepth 100000
theorem s_IndexLF (s : List UInt8) : Fc E n_strings_IndexByte [S s, .d (.int .u8 10)] (I (Lib.indexByte s 10)) := by
 have h0 : Fc E n_internal_stringslite_IndexByte [S s, .d (.int .u8 10)] (I (Lib.indexByte s 10)) := Fc.extern g.lim (x := indexByteX) rfl (v := I (Lib.indexByte s 10)) (m' := []) rfl rfl
 refine g.fn rfl rfl ?_
 repeat' ((conv => whnf); first
 | refine Yz ?_
  | (apply CallI.of; assumption)
  | (refine Ret.mk rfl))
theorem s_CutLF (p : List UInt8) (hs : p.length ≤ 1000000) : Fc E n_strings_CutSuffix [S p, S [10]] (.tup [S (endW p), B (wholeB p)]) := by
 have h0 : Fc E n_internal_stringslite_HasSuffix [S p, S [10]] (B (wholeB p)) := Fc.extern g.lim (x := suffixX) rfl (v := B (wholeB p)) (m' := []) (by simp only [suffixX]; rw [if_pos hs, suffix_lf]) rfl
 have h1 : Fc E n_internal_stringslite_CutSuffix [S p, S [10]] (.tup [S (endW p), B (wholeB p)]) := by
  refine g.fn rfl rfl ?_
  cases hw : wholeB p
  ·rw [hw] at h0
   have e : endW p = p := by unfold endW; rw [hw]; rfl
   rw [e]
   repeat' ((conv => whnf); first
   | refine Yz ?_
    | (apply CallI.of; assumption)
    | (refine Ret.mk rfl))
  ·rw [hw] at h0
   obtain ⟨hl, e⟩ := endW_win hw
   have h10 : (([10] : List UInt8).length : Int) = 1 := rfl
   rw [e]
   repeat' ((conv => whnf); first
   | refine Yz ?_
    | (apply CallI.of; assumption)
    | (refine Bounds.mk (by omega) ?_)
    | (refine Ret.mk ?_))
   simp [win]
 refine g.fn rfl rfl ?_
 repeat' ((conv => whnf); first
 | refine Yz ?_
  | (apply CallI.of; assumption)
  | (refine Ret.mk rfl))
end
end Go.Proofs.YtcbddkeiohdocaaGreatDoor.Co
/-
 One line of a log: what both read of it.
-/
namespace Go.Proofs.YtcbddkeiohdocaaGreatDoor.Co
open Go Go.Evl
def textE (t : List UInt8) : Option Evt :=
 match parts 32 t with
 | h :: _ :: _ => if isInt h = true then
   match parE (t.drop (h.length + 1)) with
   | some e => if chkE { e with nu := intD h } = 0 then some { e with nu := intD h } else none
   | none => none
  else none
 | _ => none
def outE : Option Evt → Evt × Int
 | none => (noE, 25)
 | some e => (e, 0)
def recE (s : List UInt8) : Evt × Int :=
 if s.length < 8 ∨ s.getD (s.length - 8) 0 ≠ 35 ∨ sevenB (s.drop (s.length - 7)) = false then (noE, 25)
 else if s.drop (s.length - 7) ≠ sumT (s.take (s.length - 8)) then (noE, 27)
 else outE (textE (s.take (s.length - 8)))
theorem recE_short {s : List UInt8} (h : s.length < 8) : recE s = (noE, 25) := by
 unfold recE
 rw [if_pos (.inl h)]
theorem recE_app {t c : List UInt8} {x : UInt8} (h : c.length = 7) : recE (t ++ x :: c) = if x ≠ 35 ∨ sevenB c = false then (noE, 25) else if c ≠ sumT t then (noE, 27) else outE (textE t) := by
 have hl : (t ++ x :: c).length = t.length + 8 := by rw [List.length_append, List.length_cons]; omega
 have h1 : (t ++ x :: c).drop ((t ++ x :: c).length - 7) = c := by
  rw [hl, show t.length + 8 - 7 = t.length + 1 by omega, show t ++ x :: c = (t ++ [x]) ++ c by simp, List.drop_left' (by simp)]
 have h2 : (t ++ x :: c).take ((t ++ x :: c).length - 8) = t := by
  rw [hl, show t.length + 8 - 8 = t.length by omega, List.take_left' rfl]
 have h3 : (t ++ x :: c).getD ((t ++ x :: c).length - 8) 0 = x := by
  rw [hl, show t.length + 8 - 8 = t.length by omega]
  simp [List.getD]
 unfold recE
 rw [h1, h2, h3]
 have h8 : ¬ (t ++ x :: c).length < 8 := by omega
 by_cases hc : x ≠ 35 ∨ sevenB c = false
 ·rw [if_pos hc, if_pos (.inr hc)]
 ·rw [if_neg hc, if_neg (fun h => h.elim h8 hc)]
theorem cut_at {s : List UInt8} (h : 8 ≤ s.length) : ∃ t x c, s = t ++ x :: c ∧ c.length = 7 := by
 have hlt : s.length - 8 < s.length := by omega
 refine ⟨s.take (s.length - 8), s[s.length - 8], s.drop (s.length - 8 + 1), ?_, by rw [List.length_drop]; omega⟩
 rw [← List.drop_eq_getElem_cons hlt, List.take_append_drop]
theorem indexByte_app (b : UInt8) : ∀ (a r : List UInt8), b ∉ a → Lib.indexByte (a ++ b :: r) b = a.length
 | [], _, _ => by simp [Lib.indexByte]
 | c :: a, r, h => by
  have hc : (c == b) = false := beq_eq_false_iff_ne.2 fun e => h (by simp [e])
  have ih := indexByte_app b a r fun hm => h (by simp [hm])
  simp only [List.cons_append, Lib.indexByte, hc, ih, List.length_cons]
  rw [if_neg (by decide), if_neg (by simp)]
  omega
theorem indexByte_non (b : UInt8) : ∀ (a : List UInt8), b ∉ a → Lib.indexByte a b = -1
 | [], _ => rfl
 | c :: a, h => by
  have hc : (c == b) = false := beq_eq_false_iff_ne.2 fun e => h (by simp [e])
  have ih := indexByte_non b a fun hm => h (by simp [hm])
  simp only [Lib.indexByte, hc, ih]
  rfl
theorem byte_split (b : UInt8) : ∀ s : List UInt8, b ∈ s → ∃ a r, s = a ++ b :: r ∧ b ∉ a
 | [], h => absurd h List.not_mem_nil
 | c :: s, h => by
  by_cases e : c = b
  ·exact ⟨[], s, by rw [e]; rfl, List.not_mem_nil⟩
  ·obtain ⟨a, r, h1, h2⟩ := byte_split b s ((List.mem_cons.1 h).resolve_left fun x => e x.symm)
   exact ⟨c :: a, r, by rw [h1]; rfl, fun hm => (List.mem_cons.1 hm).elim (fun x => e x.symm) h2⟩
theorem text_cases (t : List UInt8) : ((32 : UInt8) ∉ t ∧ parts 32 t = [t] ∧ textE t = none) ∨ ∃ h r, (32 : UInt8) ∉ h ∧ t = h ++ 32 :: r ∧ parts 32 t = h :: parts 32 r ∧
  textE t = if isInt h = true then (match parE r with
   | some e => if chkE { e with nu := intD h } = 0 then some { e with nu := intD h } else none
   | none => none) else none := by
 by_cases hm : (32 : UInt8) ∈ t
 ·obtain ⟨a, r, rfl, ha⟩ := byte_split 32 t hm
  have hp := parts_append 32 r a ha
  refine .inr ⟨a, r, ha, rfl, hp, ?_⟩
  have hd : (a ++ 32 :: r).drop (a.length + 1) = r := by
   rw [show a ++ 32 :: r = (a ++ [32]) ++ r by simp, List.drop_left' (by simp)]
  unfold textE
  rw [hp]
  cases hr : parts 32 r with
  | nil => exact absurd hr (parts_ne 32 r)
  | cons y q => dsimp only; rw [hd]
 ·have hp := parts_word 32 t hm
  refine .inl ⟨hm, hp, ?_⟩
  unfold textE
  rw [hp]
theorem win_l {a r : List UInt8} {b : UInt8} : win (a ++ b :: r) 0 (a.length - 0) = a := by
 unfold win
 rw [List.drop_zero, Nat.sub_zero, List.take_left' rfl]
theorem win_r {a r : List UInt8} {b : UInt8} : win (a ++ b :: r) (a.length + 1) ((a ++ b :: r).length - (a.length + 1)) = r := by
 unfold win
 rw [show a ++ b :: r = (a ++ [b]) ++ r by simp, List.drop_left' (by simp), List.take_of_length_le (by simp; omega)]
theorem getD_at {a r : List UInt8} {b : UInt8} : (a ++ b :: r).getD a.length 0 = b := by simp [List.getD]
section
variable {E : Oracle} (g : Good E)
include g
set_option maxRecDepth 100000
theorem s_Index32 (s : List UInt8) : Fc E n_internal_stringslite_Index [S s, S [32]] (I (Lib.indexByte s 32)) := by
 have h0 : Fc E n_internal_stringslite_IndexByte [S s, .d (.int .u8 32)] (I (Lib.indexByte s 32)) := Fc.extern g.lim (x := indexByteX) rfl (v := I (Lib.indexByte s 32)) (m' := []) rfl rfl
 have h1 : (([32] : List UInt8).length : Int) = 1 := rfl
 refine g.fn rfl rfl ?_
 by_cases he : [32] = s
 ·subst he
  repeat' ((conv => whnf); first
  | refine Yz ?_
   | (refine Cmp.tt rfl ?_)
   | (refine Ret.mk rfl))
 ·repeat' ((conv => whnf); first
 | refine Yz ?_
   | (refine PickB.at 0 (by omega) (by decide) ?_)
   | (refine Cmp.ff he ?_)
   | (apply CallI.of; assumption)
   | (refine Ret.mk rfl))
theorem s_Cut_non (s : List UInt8) (h : (32 : UInt8) ∉ s) : Fc E n_strings_Cut [S s, S [32]] (.tup [S s, S [], B false]) := by
 have h0 := s_Index32 g s
 rw [indexByte_non 32 s h] at h0
 have h1 : Fc E n_internal_stringslite_Cut [S s, S [32]] (.tup [S s, S [], B false]) := by
  refine g.fn rfl rfl ?_
  repeat' ((conv => whnf); first
  | refine Yz ?_
   | (apply CallI.of; assumption)
   | (refine Ret.mk rfl))
 refine g.fn rfl rfl ?_
 repeat' ((conv => whnf); first
 | refine Yz ?_
  | (apply CallI.of; assumption)
  | (refine Ret.mk rfl))
theorem s_Cut_at (a r : List UInt8) (h : (32 : UInt8) ∉ a) (hl : (a ++ 32 :: r).length ≤ 1000000) : Fc E n_strings_Cut [S (a ++ 32 :: r), S [32]] (.tup [S a, S r, B true]) := by
 have h0 := s_Index32 g (a ++ 32 :: r)
 rw [indexByte_app 32 a r h] at h0
 have h10 : (([32] : List UInt8).length : Int) = 1 := rfl
 have hlen : (a ++ 32 :: r).length = a.length + (r.length + 1) := by simp
 have h1 : Fc E n_internal_stringslite_Cut [S (a ++ 32 :: r), S [32]] (.tup [S a, S r, B true]) := by
  refine g.fn rfl rfl ?_
  repeat' ((conv => whnf); first
  | refine Yz ?_
   | (apply CallI.of; assumption)
   | (refine Bounds.at 0 a.length (by omega) (by omega) (by omega) ?_ <;> (try dsimp only) <;> (rw [win_l]))
   | (refine Bounds.at (a.length + 1) (a ++ 32 :: r).length (by omega) (by omega) (by omega) ?_ <;> (try dsimp only) <;> (rw [win_r]))
   | (refine Ret.mk rfl))
 refine g.fn rfl rfl ?_
 repeat' ((conv => whnf); first
 | refine Yz ?_
  | (apply CallI.of; assumption)
  | (refine Ret.mk rfl))
end
end Go.Proofs.YtcbddkeiohdocaaGreatDoor.Co
/-
 One line of a log: recorded (the program's).
-/
namespace Go.Proofs.YtcbddkeiohdocaaGreatDoor.Co
open Go Go.Evl
theorem parE_le {s : List UInt8} {e : Evt} (h : parE s = some e) : e.ns.length ≤ 3 ∧ e.vs.length ≤ 4 ∧ e.tx = [] := by
 unfold parE at h
 split at h
 ·cases h
 ·rename_i k r _
  split at h
  ·obtain rfl := Option.some.inj h
   rename_i hok
   unfold okWs at hok
   simp only [Bool.and_eq_true, decide_eq_true_eq] at hok
   have ⟨h1, h2⟩ := form_le k
   obtain ⟨⟨⟨_, hl⟩, _⟩, _⟩ := hok
   refine ⟨?_, ?_, rfl⟩
   ·show (r.take (formN k)).length ≤ 3
    rw [List.length_take]; omega
   ·show ((r.drop (formN k)).map intD).length ≤ 4
    rw [List.length_map, List.length_drop]; omega
  ·cases h
def recB (s : List UInt8) (b : Int) : Int := if (recE s).2 ≠ 0 then (recE s).2 else if (recE s).1.nu ≠ b + 1 then 11 else 0
abbrev RecV (e : Evt) (x : Int) : V := .tup [Evv e, I x]
theorem rec_bad {s : List UInt8} {x : Int} (h : recE s = (noE, x)) (hx : x ≠ 0) (b : Int) : RecV (recE s).1 (recB s b) = RecV noE x := by
 unfold recB
 rw [h]
 simp only
 rw [if_pos hx]
theorem rec_ok {s : List UInt8} {e : Evt} (h : recE s = (e, 0)) {b : Int} (hb : e.nu = b + 1) : RecV (recE s).1 (recB s b) = RecV e 0 := by
 unfold recB
 rw [h]
 simp only
 rw [if_neg (by decide), if_neg (fun h => h hb)]
theorem rec_no {s : List UInt8} {e : Evt} (h : recE s = (e, 0)) {b : Int} (hb : e.nu ≠ b + 1) : RecV (recE s).1 (recB s b) = RecV e 11 := by
 unfold recB
 rw [h]
 simp only
 rw [if_neg (by decide), if_pos hb]
theorem win_t {t h r : List UInt8} (e : t = h ++ 32 :: r) : win t (h.length + 1) (t.length - (h.length + 1)) = r := by
 rw [e]; exact win_r
section
variable {E : Oracle} (g : Good E)
include g
set_option maxRecDepth 100000
set_option maxHeartbeats 16000000 in
theorem s_recorded (s : List UInt8) (hs : s.length ≤ 1000000) (b : Int) (hb : 0 ≤ b ∧ b ≤ 1000000) : Fc E n_office_recorded [S s, I b] (RecV (recE s).1 (recB s b)) := by
 refine g.fn rfl rfl ?_
 by_cases h8 : s.length < 8
 ·rw [rec_bad (recE_short h8) (by decide) b]
  repeat' ((conv => whnf); first
  | refine Yz ?_
   | (refine Ret.mk rfl))
 ·obtain ⟨t, x, c, rfl, h7⟩ := cut_at (Nat.le_of_not_lt h8)
  have hlen : (t ++ x :: c).length = t.length + 8 := by rw [List.length_append, List.length_cons]; omega
  have hE := recE_app (t := t) (x := x) h7
  have hdg := s_digits7 g c
  have hsm := s_sum g t (by omega)
  have hxu := toNat_u8 x
  by_cases hx : x = 35
  ·have hxt : x.toNat = 35 := by rw [hx]; rfl
   cases h7b : sevenB c with
   | false =>
    rw [if_pos (.inr h7b)] at hE
    rw [rec_bad hE (by decide) b]
    rw [h7b] at hdg
    repeat' ((conv => whnf); first
    | refine Yz ?_
     | (apply CallI.of; assumption)
     | (refine PickB.at t.length (by omega) (by omega) ?_; rw [getD_at])
     | (refine Bounds.at 0 t.length (by omega) (by omega) (by omega) ?_ <;> (try dsimp only) <;> (rw [win_l]))
     | (refine Bounds.at (t.length + 1) (t ++ x :: c).length (by omega) (by omega) (by omega) ?_ <;> (try dsimp only) <;> (rw [win_r]))
     | (refine Ret.mk rfl)
     | fail)
   | true =>
    rw [if_neg (by rw [h7b]; simp [hx])] at hE
    rw [h7b] at hdg
    by_cases hc : c = sumT t
    ·rw [if_neg (fun h => h hc)] at hE
     rcases text_cases t with ⟨hn, hp, ht⟩ | ⟨h, r, hn, hth, hp, ht⟩
     ·rw [ht] at hE
      rw [rec_bad hE (by decide) b]
      have hcut := s_Cut_non g t hn
      have hin := s_decimal g t (by omega)
      have hpa := s_parse g [] (by decide)
      repeat' ((conv => whnf); first
      | refine Yz ?_
       | (apply CallI.of; assumption)
       | (refine PickB.at t.length (by omega) (by omega) ?_; rw [getD_at])
       | (refine Bounds.at 0 t.length (by omega) (by omega) (by omega) ?_ <;> (try dsimp only) <;> (rw [win_l]))
       | (refine Bounds.at (t.length + 1) (t ++ x :: c).length (by omega) (by omega) (by omega) ?_ <;> (try dsimp only) <;> (rw [win_r]))
       | (refine Cmp.tt hc ?_)
       | (refine Cmp.tt hc.symm ?_)
       | (refine Ret.mk rfl)
       | fail)
     ·have hl2 : t.length = h.length + (r.length + 1) := by rw [hth, List.length_append, List.length_cons]
      have hcut := s_Cut_at g h r hn (by rw [← hth]; omega)
      rw [← hth] at hcut
      have hin := s_decimal g h (by omega)
      have hpa := s_parse g r (by omega)
      obtain ⟨hd1, hd2⟩ := isInt_dec h
      rw [hd1] at hin
      cases hi : isInt h with
      | false =>
       rw [hi, if_neg (by decide)] at ht
       rw [ht] at hE
       rw [rec_bad hE (by decide) b]
       rw [hi] at hin
       repeat' ((conv => whnf); first
       | refine Yz ?_
        | (apply CallI.of; assumption)
        | (refine PickB.at t.length (by omega) (by omega) ?_; rw [getD_at])
        | (refine Bounds.at 0 t.length (by omega) (by omega) (by omega) ?_ <;> (try dsimp only) <;> (rw [win_l]))
        | (refine Bounds.at (t.length + 1) (t ++ x :: c).length (by omega) (by omega) (by omega) ?_ <;> (try dsimp only) <;> (rw [win_r]))
        | (refine Cmp.tt hc ?_)
        | (refine Cmp.tt hc.symm ?_)
        | (refine Need.mk ⟨rfl, by decide⟩ ?_)
        | (refine Ret.mk rfl)
        | fail)
      | true =>
       rw [hi, if_pos rfl] at ht
       rw [hi, hd2 hi] at hin
       cases hr : parE r with
       | none =>
        rw [hr] at ht hpa
        rw [ht] at hE
        rw [rec_bad hE (by decide) b]
        repeat' ((conv => whnf); first
        | refine Yz ?_
         | (apply CallI.of; assumption)
         | (refine PickB.at t.length (by omega) (by omega) ?_; rw [getD_at])
         | (refine Bounds.at 0 t.length (by omega) (by omega) (by omega) ?_ <;> (try dsimp only) <;> (rw [win_l]))
         | (refine Bounds.at (t.length + 1) (t ++ x :: c).length (by omega) (by omega) (by omega) ?_ <;> (try dsimp only) <;> (rw [win_r]))
         | (refine Cmp.tt hc ?_)
         | (refine Cmp.tt hc.symm ?_)
         | (refine Need.mk ⟨rfl, by decide⟩ ?_)
         | (refine Ret.mk rfl)
         | fail)
       | some e =>
        rw [hr] at ht hpa
        dsimp only at ht
        obtain ⟨e1, e2, e3⟩ := parE_le hr
        obtain ⟨nu, ki, ns, vs, tx⟩ := e
        dsimp only at ht e1 e2 e3
        have hce := s_CheckEvent g ⟨intD h, ki, ns, vs, tx⟩ (by dsimp only; omega) (by dsimp only; omega)
        by_cases hz : chkE ⟨intD h, ki, ns, vs, tx⟩ = 0
        ·rw [if_pos hz] at ht
         rw [ht] at hE
         rw [hz] at hce
         by_cases hnb : intD h = b + 1
         ·rw [rec_ok hE hnb]
          have hwh : Fc E n_office_when [B false, I 11] (I 0) := s_owhen g false 11
          repeat' ((conv => whnf); first
          | refine Yz ?_
           | (apply CallI.of; assumption)
           | (refine PickB.at t.length (by omega) (by omega) ?_; rw [getD_at])
           | (refine Bounds.at 0 t.length (by omega) (by omega) (by omega) ?_ <;> (try dsimp only) <;> (rw [win_l]))
           | (refine Bounds.at (t.length + 1) (t ++ x :: c).length (by omega) (by omega) (by omega) ?_ <;> (try dsimp only) <;> (rw [win_r]))
           | (refine Cmp.tt hc ?_)
           | (refine Cmp.tt hc.symm ?_)
           | (refine Need.mk ⟨rfl, by decide⟩ ?_)
           | (refine Ret.mk rfl)
           | fail)
         ·rw [rec_no hE hnb]
          have hwh : Fc E n_office_when [B true, I 11] (I 11) := s_owhen g true 11
          repeat' ((conv => whnf); first
          | refine Yz ?_
           | (apply CallI.of; assumption)
           | (refine PickB.at t.length (by omega) (by omega) ?_; rw [getD_at])
           | (refine Bounds.at 0 t.length (by omega) (by omega) (by omega) ?_ <;> (try dsimp only) <;> (rw [win_l]))
           | (refine Bounds.at (t.length + 1) (t ++ x :: c).length (by omega) (by omega) (by omega) ?_ <;> (try dsimp only) <;> (rw [win_r]))
           | (refine Cmp.tt hc ?_)
           | (refine Cmp.tt hc.symm ?_)
           | (refine Need.mk ⟨rfl, by decide⟩ ?_)
           | (refine Ret.mk rfl)
           | fail)
        ·rw [if_neg hz] at ht
         rw [ht] at hE
         rw [rec_bad hE (by decide) b]
         repeat' ((conv => whnf); first
         | refine Yz ?_
          | (apply CallI.of; assumption)
          | (refine PickB.at t.length (by omega) (by omega) ?_; rw [getD_at])
          | (refine Bounds.at 0 t.length (by omega) (by omega) (by omega) ?_ <;> (try dsimp only) <;> (rw [win_l]))
          | (refine Bounds.at (t.length + 1) (t ++ x :: c).length (by omega) (by omega) (by omega) ?_ <;> (try dsimp only) <;> (rw [win_r]))
          | (refine Cmp.tt hc ?_)
          | (refine Cmp.tt hc.symm ?_)
          | (refine Need.mk ⟨rfl, by decide⟩ ?_)
          | (refine Cmp.ff hz ?_)
          | (refine Ret.mk rfl)
          | fail)
    ·rw [if_pos hc] at hE
     rw [rec_bad hE (by decide) b]
     repeat' ((conv => whnf); first
     | refine Yz ?_
      | (apply CallI.of; assumption)
      | (refine PickB.at t.length (by omega) (by omega) ?_; rw [getD_at])
      | (refine Bounds.at 0 t.length (by omega) (by omega) (by omega) ?_ <;> (try dsimp only) <;> (rw [win_l]))
      | (refine Bounds.at (t.length + 1) (t ++ x :: c).length (by omega) (by omega) (by omega) ?_ <;> (try dsimp only) <;> (rw [win_r]))
      | (refine Cmp.ff hc ?_)
      | (refine Cmp.ff (fun h => hc h.symm) ?_)
      | (refine Ret.mk rfl)
      | fail)
  ·rw [if_pos (.inl hx)] at hE
   rw [rec_bad hE (by decide) b]
   have hxn : x.toNat ≠ 35 := fun e => hx (UInt8.toNat_inj.1 e)
   repeat' ((conv => whnf); first
   | refine Yz ?_
    | (apply CallI.of; assumption)
    | (refine PickB.at t.length (by omega) (by omega) ?_; rw [getD_at])
    | (refine Bounds.at 0 t.length (by omega) (by omega) (by omega) ?_ <;> (try dsimp only) <;> (rw [win_l]))
    | (refine Bounds.at (t.length + 1) (t ++ x :: c).length (by omega) (by omega) (by omega) ?_ <;> (try dsimp only) <;> (rw [win_r]))
    | (refine Cmp.ff (by omega) ?_)
    | (refine Ret.mk rfl)
    | fail)
end
end Go.Proofs.YtcbddkeiohdocaaGreatDoor.Co
/-
 One line of a log: record (the reference's).
-/
namespace Go.Proofs.YtcbddkeiohdocaaGreatDoor.Co
open Go Go.Evl
section
variable {E : Oracle} (g : Good E)
include g
set_option maxRecDepth 100000
set_option maxHeartbeats 16000000 in
theorem r_record (s : List UInt8) (hs : s.length ≤ 1000000) : Fc E n_ref10_record [S s] (RecV (recE s).1 (recE s).2) := by
 refine g.fn rfl rfl ?_
 by_cases h8 : s.length < 8
 ·rw [recE_short h8]
  repeat' ((conv => whnf); first
  | refine Yz ?_
   | (refine Ret.mk rfl))
 ·obtain ⟨t, x, c, rfl, h7⟩ := cut_at (Nat.le_of_not_lt h8)
  have hlen : (t ++ x :: c).length = t.length + 8 := by rw [List.length_append, List.length_cons]; omega
  have hE := recE_app (t := t) (x := x) h7
  have hdg := r_digits7 g c (by omega)
  have hsm := r_Sum g t (by omega)
  have hxu := toNat_u8 x
  by_cases hx : x = 35
  ·have hxt : x.toNat = 35 := by rw [hx]; rfl
   cases h7b : sevenB c with
   | false =>
    rw [if_pos (.inr h7b)] at hE
    rw [hE]
    rw [h7b] at hdg
    repeat' ((conv => whnf); first
    | refine Yz ?_
     | (apply CallI.of; assumption)
     | (refine PickB.at t.length (by omega) (by omega) ?_; rw [getD_at])
     | (refine Bounds.at 0 t.length (by omega) (by omega) (by omega) ?_ <;> (try dsimp only) <;> (rw [win_l]))
     | (refine Bounds.at (t.length + 1) (t ++ x :: c).length (by omega) (by omega) (by omega) ?_ <;> (try dsimp only) <;> (rw [win_r]))
     | (refine Ret.mk rfl)
     | fail)
   | true =>
    rw [if_neg (by rw [h7b]; simp [hx])] at hE
    rw [h7b] at hdg
    by_cases hc : c = sumT t
    ·rw [if_neg (fun h => h hc)] at hE
     rcases text_cases t with ⟨hn, hp, ht⟩ | ⟨h, r, hn, hth, hp, ht⟩
     ·rw [ht] at hE
      rw [hE]
      have hsp := r_Split10 g t (by omega)
      rw [hp] at hsp
      have hin := r_Integer g t
      unfold IntV at hin
      have hl1 : ([t] : List (List UInt8)).length = 1 := rfl
      cases hit : isInt t
      all_goals
       rw [hit] at hin
       repeat' ((conv => whnf); first
       | refine Yz ?_
        | (apply CallI.of; assumption)
        | (refine PickB.at t.length (by omega) (by omega) ?_; rw [getD_at])
        | (refine Bounds.at 0 t.length (by omega) (by omega) (by omega) ?_ <;> (try dsimp only) <;> (rw [win_l]))
        | (refine Bounds.at (t.length + 1) (t ++ x :: c).length (by omega) (by omega) (by omega) ?_ <;> (try dsimp only) <;> (rw [win_r]))
        | (refine Cmp.tt hc ?_)
        | (refine Cmp.tt hc.symm ?_)
        | (refine Ret.mk rfl)
        | fail)
     ·have hl2 : t.length = h.length + (r.length + 1) := by rw [hth, List.length_append, List.length_cons]
      have hsp := r_Split10 g t (by omega)
      rw [hp] at hsp
      have hin := r_Integer g h
      unfold IntV at hin
      have hpa := r_Parsed g r (by omega)
      have hpl : 1 ≤ (parts 32 r).length := List.length_pos_iff.2 (parts_ne 32 r)
      have hkl : (h :: parts 32 r).length = (parts 32 r).length + 1 := rfl
      cases hi : isInt h with
      | false =>
       rw [hi, if_neg (by decide)] at ht
       rw [ht] at hE
       rw [hE]
       rw [hi] at hin
       repeat' ((conv => whnf); first
       | refine Yz ?_
        | (apply CallI.of; assumption)
        | (refine PickB.at t.length (by omega) (by omega) ?_; rw [getD_at])
        | (refine Bounds.at 0 t.length (by omega) (by omega) (by omega) ?_ <;> (try dsimp only) <;> (rw [win_l]))
        | (refine Bounds.at (t.length + 1) (t ++ x :: c).length (by omega) (by omega) (by omega) ?_ <;> (try dsimp only) <;> (rw [win_r]))
        | (refine Cmp.tt hc ?_)
        | (refine Cmp.tt hc.symm ?_)
        | (refine Bounds.at (h.length + 1) t.length (by omega) (by omega) (by omega) ?_ <;> (try dsimp only) <;> (rw [win_t hth]))
        | (refine Need.mk ⟨rfl, by decide⟩ ?_)
        | (refine Ret.mk rfl)
        | fail)
      | true =>
       rw [hi, if_pos rfl] at ht
       rw [hi] at hin
       cases hr : parE r with
       | none =>
        rw [hr] at ht hpa
        rw [ht] at hE
        rw [hE]
        repeat' ((conv => whnf); first
        | refine Yz ?_
         | (apply CallI.of; assumption)
         | (refine PickB.at t.length (by omega) (by omega) ?_; rw [getD_at])
         | (refine Bounds.at 0 t.length (by omega) (by omega) (by omega) ?_ <;> (try dsimp only) <;> (rw [win_l]))
         | (refine Bounds.at (t.length + 1) (t ++ x :: c).length (by omega) (by omega) (by omega) ?_ <;> (try dsimp only) <;> (rw [win_r]))
         | (refine Cmp.tt hc ?_)
         | (refine Cmp.tt hc.symm ?_)
         | (refine Bounds.at (h.length + 1) t.length (by omega) (by omega) (by omega) ?_ <;> (try dsimp only) <;> (rw [win_t hth]))
         | (refine Need.mk ⟨rfl, by decide⟩ ?_)
         | (refine Ret.mk rfl)
         | fail)
       | some e =>
        rw [hr] at ht hpa
        dsimp only at ht
        obtain ⟨e1, e2, e3⟩ := parE_le hr
        obtain ⟨nu, ki, ns, vs, tx⟩ := e
        dsimp only at ht e1 e2 e3
        have hce := r_CheckEvent g ⟨intD h, ki, ns, vs, tx⟩ (by dsimp only; omega) (by dsimp only; omega)
        by_cases hz : chkE ⟨intD h, ki, ns, vs, tx⟩ = 0
        ·rw [if_pos hz] at ht
         rw [ht] at hE
         rw [hz] at hce
         rw [hE]
         repeat' ((conv => whnf); first
         | refine Yz ?_
          | (apply CallI.of; assumption)
          | (refine PickB.at t.length (by omega) (by omega) ?_; rw [getD_at])
          | (refine Bounds.at 0 t.length (by omega) (by omega) (by omega) ?_ <;> (try dsimp only) <;> (rw [win_l]))
          | (refine Bounds.at (t.length + 1) (t ++ x :: c).length (by omega) (by omega) (by omega) ?_ <;> (try dsimp only) <;> (rw [win_r]))
          | (refine Cmp.tt hc ?_)
          | (refine Cmp.tt hc.symm ?_)
          | (refine Bounds.at (h.length + 1) t.length (by omega) (by omega) (by omega) ?_ <;> (try dsimp only) <;> (rw [win_t hth]))
          | (refine Need.mk ⟨rfl, by decide⟩ ?_)
          | (refine Ret.mk rfl)
          | fail)
        ·rw [if_neg hz] at ht
         rw [ht] at hE
         rw [hE]
         repeat' ((conv => whnf); first
         | refine Yz ?_
          | (apply CallI.of; assumption)
          | (refine PickB.at t.length (by omega) (by omega) ?_; rw [getD_at])
          | (refine Bounds.at 0 t.length (by omega) (by omega) (by omega) ?_ <;> (try dsimp only) <;> (rw [win_l]))
          | (refine Bounds.at (t.length + 1) (t ++ x :: c).length (by omega) (by omega) (by omega) ?_ <;> (try dsimp only) <;> (rw [win_r]))
          | (refine Cmp.tt hc ?_)
          | (refine Cmp.tt hc.symm ?_)
          | (refine Bounds.at (h.length + 1) t.length (by omega) (by omega) (by omega) ?_ <;> (try dsimp only) <;> (rw [win_t hth]))
          | (refine Need.mk ⟨rfl, by decide⟩ ?_)
          | (refine Cmp.ff hz ?_)
          | (refine Ret.mk rfl)
          | fail)
    ·rw [if_pos hc] at hE
     rw [hE]
     repeat' ((conv => whnf); first
     | refine Yz ?_
      | (apply CallI.of; assumption)
      | (refine PickB.at t.length (by omega) (by omega) ?_; rw [getD_at])
      | (refine Bounds.at 0 t.length (by omega) (by omega) (by omega) ?_ <;> (try dsimp only) <;> (rw [win_l]))
      | (refine Bounds.at (t.length + 1) (t ++ x :: c).length (by omega) (by omega) (by omega) ?_ <;> (try dsimp only) <;> (rw [win_r]))
      | (refine Cmp.ff hc ?_)
      | (refine Cmp.ff (fun h => hc h.symm) ?_)
      | (refine Ret.mk rfl)
      | fail)
  ·rw [if_pos (.inl hx)] at hE
   rw [hE]
   have hxn : x.toNat ≠ 35 := fun e => hx (UInt8.toNat_inj.1 e)
   repeat' ((conv => whnf); first
   | refine Yz ?_
    | (apply CallI.of; assumption)
    | (refine PickB.at t.length (by omega) (by omega) ?_; rw [getD_at])
    | (refine Bounds.at 0 t.length (by omega) (by omega) (by omega) ?_ <;> (try dsimp only) <;> (rw [win_l]))
    | (refine Bounds.at (t.length + 1) (t ++ x :: c).length (by omega) (by omega) (by omega) ?_ <;> (try dsimp only) <;> (rw [win_r]))
    | (refine Cmp.ff (by omega) ?_)
    | (refine Ret.mk rfl)
    | fail)
end
end Go.Proofs.YtcbddkeiohdocaaGreatDoor.Co
/-
 What a call leaves: an object of the caller's, a row.
-/
namespace Go.Proofs.YtcbddkeiohdocaaGreatDoor.Co
open Go Go.Evl
theorem settle_low {cx : Cx} {slot lo : Nat} {old m : Mem} {o : Evl.Id} {v : V} (hi : Go.Evl.ids v = [o]) (hr : Go.Evl.ren [] v = v) (h : o.lv < lo) : Go.Evl.settle cx slot lo old m v = some (v, old) := by
 have hn : ¬ lo ≤ o.lv := by omega
 have hr' : Go.Evl.reach lo m 64 (Go.Evl.ids v) [] = [] := by
  rw [hi]
  simp [Go.Evl.reach, hn]
 unfold Go.Evl.settle
 simp only [hr']
 rw [if_pos (by rw [hi]; simp [Go.Evl.within, Go.Evl.movable, Go.Evl.onceB, h])]
 simp [Go.Evl.number, hr, Go.Evl.moved]
theorem settle_rowP {cx : Cx} {slot lo : Nat} {old m : Mem} {o : Evl.Id} {v v' : V} {wr : Bool} {t sz n : Nat} {xs : List D} (hi : Go.Evl.ids v = [o]) (hlo : lo ≤ o.lv) (hl : Evl.look m o = some (.row wr t sz n xs)) (hr : Go.Evl.ren [(o, ⟨cx.lv, slot, Go.Evl.freeK cx.lv slot old⟩)] v = v') :
  Go.Evl.settle cx slot lo old m v = some (v', old ++ [(⟨cx.lv, slot, Go.Evl.freeK cx.lv slot old⟩, .row wr t sz n xs)]) := by
 have hr' : Go.Evl.reach lo m 64 (Go.Evl.ids v) [] = [o] := by
  rw [hi]
  simp [Go.Evl.reach, hlo, hl, Go.Evl.idsO]
 unfold Go.Evl.settle
 simp only [hr']
 rw [if_pos (by rw [hi]; simp [Go.Evl.within, Go.Evl.movable, Go.Evl.onceB, hl, hlo, Go.Evl.idsO, Go.Evl.isLoop])]
 simp [Go.Evl.number, hr, Go.Evl.moved, hl, Go.Evl.renO]
theorem Some'.low {cx : Cx} {slot lo : Nat} {old m : Mem} {o : Evl.Id} {v : V} {K : V × Mem → Prop} (hi : Go.Evl.ids v = [o]) (hr : Go.Evl.ren [] v = v) (h : o.lv < lo) (k : K (v, old)) : Some' (Go.Evl.settle cx slot lo old m v) K := ⟨_, settle_low hi hr h, k⟩
theorem Some'.nrow {cx : Cx} {slot lo : Nat} {old m : Mem} {o : Evl.Id} {v v' : V} {wr : Bool} {t sz n : Nat} {xs : List D} {K : V × Mem → Prop} (c : Nat) (hi : Go.Evl.ids v = [o]) (hlo : lo ≤ o.lv) (hl : Evl.look m o = some (.row wr t sz n xs)) (hf : Go.Evl.freeK cx.lv slot old = c) (hr : Go.Evl.ren [(o, ⟨cx.lv, slot, c⟩)] v = v')
  (k : K (v', old ++ [(⟨cx.lv, slot, c⟩, .row wr t sz n xs)])) : Some' (Go.Evl.settle cx slot lo old m v) K := ⟨_, settle_rowP (v' := v') hi hlo hl (by rw [hf]; exact hr), by rw [hf]; exact k⟩
end Go.Proofs.YtcbddkeiohdocaaGreatDoor.Co
/-
 An event's body and record, printed.
-/
namespace Go.Proofs.YtcbddkeiohdocaaGreatDoor.Co
open Go Go.Evl
theorem patch_end {α : Type} (p ys ds : List α) : patch (p ++ ys) p.length ds = (p ++ ds) ++ ys.drop ds.length := by
 unfold patch
 rw [List.take_left' rfl, List.drop_append, List.drop_of_length_le (by omega), show p.length + ds.length - p.length = ds.length by omega, List.nil_append]
theorem flat_one {α : Type} (z : α) : ∀ n : Nat, (List.replicate n [z]).flatten = List.replicate n z
 | 0 => rfl
 | n + 1 => by rw [List.replicate_succ, List.flatten_cons, flat_one z n, List.replicate_succ]; rfl
theorem patch3 (x z : D) (a b : List D) (n : Nat) (hn : n = 1 + a.length + b.length) : patch (patch (patch (List.replicate n [z]).flatten 0 [x]) 1 a) (1 + a.length) b = x :: a ++ b := by
 have h1 := patch_end [] (List.replicate n z) [x]
 rw [List.nil_append, List.nil_append, List.drop_replicate] at h1
 have h2 := patch_end [x] (List.replicate (n - [x].length) z) a
 rw [List.drop_replicate] at h2
 have h3 := patch_end ([x] ++ a) (List.replicate (n - [x].length - a.length) z) b
 rw [List.drop_replicate] at h3
 have e3 : ([x] ++ a).length = 1 + a.length := by simp; omega
 have e0 : n - [x].length - a.length - b.length = 0 := by simp; omega
 rw [e3, e0] at h3
 have e1 : ([] : List D).length = 0 := rfl
 have e2 : ([x] : List D).length = 1 := rfl
 rw [e1] at h1
 rw [flat_one, h1]
 rw [e2] at h2 h3 ⊢
 rw [h2, h3]
 simp
def bodyE (e : Evt) : List UInt8 := joined 32 (e.ki :: e.ns ++ e.vs.map decL)
def txtE (e : Evt) : List UInt8 := decL e.nu ++ 32 :: bodyE e
def lineE (e : Evt) : List UInt8 := txtE e ++ 35 :: sumT (txtE e)
def logL (l : List Evt) : List UInt8 := l.flatMap fun e => lineE e ++ [10]
structure PrE (e : Evt) : Prop where
 nu : 0 ≤ e.nu ∧ e.nu ≤ 999999999
 ns : 1 ≤ e.ns.length ∧ e.ns.length ≤ 1000
 vs : 1 ≤ e.vs.length ∧ e.vs.length ≤ 1000
 va : ∀ x ∈ e.vs, 0 ≤ x ∧ x ≤ 999999999
 ln : (txtE e).length ≤ 1000000
theorem joined_flat (k : List UInt8) : ∀ l : List (List UInt8), joined 32 (k :: l) = k ++ l.flatMap fun x => 32 :: x
 | [] => by simp [joined]
 | y :: r => by
  rw [joined, joined_flat y r, List.flatMap_cons]
  simp
theorem txt_body (e : Evt) : (bodyE e).length ≤ (txtE e).length ∧ (txtE e).length = (decL e.nu).length + (bodyE e).length + 1 := by
 unfold txtE
 rw [List.length_append, List.length_cons]
 omega
theorem line_len (e : Evt) : (lineE e).length = (txtE e).length + 8 := by
 unfold lineE
 rw [List.length_append, List.length_cons, sumT_len]
section
variable {E : Oracle} (g : Good E)
include g
set_option maxRecDepth 100000
set_option maxHeartbeats 4000000 in
theorem s_Concat3 (k : List UInt8) (ns vs : List (List UInt8)) (hn : 1 ≤ ns.length ∧ ns.length ≤ 1000000) (hv : 1 ≤ vs.length ∧ vs.length ≤ 1000000) :
  Fc E n_slices_Concat_Lstring_string [.d (.list 3 [.list 1 [.str k], .list ns.length (ns.map D.str), .list vs.length (vs.map D.str)])] (Ws (k :: ns ++ vs)) := by
 refine g.fn rfl rfl ?_
 repeat' ((conv => whnf); first
 | refine Yz ?_
  | (refine Pick.now rfl ?_)
  | (refine LoopW.step g.lim ?_)
  | (refine In.enter (f := n_slices_Grow_Lstring_string) g.lim rfl rfl ?_)
  | (refine Bounds.mk (by omega) ?_)
  | (refine Need.mk (by simp only [List.length_cons, List.length_nil, List.length_map]; omega) ?_)
  | (refine Some'.nrow 0 rfl (Nat.le_refl _) rfl rfl rfl ?_)
  | (refine Ret.mk ?_)
  | fail)
 have hN : (0 + ((1 : Nat) : Int) + (ns.length : Int) + (vs.length : Int) - (((0 : Nat) : Int) - ((0 : Nat) : Int))).toNat = 1 + ns.length + vs.length := by omega
 have hp := patch3 (.str k) (.str []) (ns.map D.str) (vs.map D.str) (1 + ns.length + vs.length) (by simp)
 rw [hN]
 simp only [Int.toNat_natCast, Int.toNat_zero, Nat.sub_zero, Nat.zero_add, Nat.mul_one]
 rw [if_pos ⟨trivial, trivial⟩]
 rw [List.length_map] at hp
 rw [hp]
 simp
 omega
set_option maxHeartbeats 4000000 in
theorem s_body (e : Evt) (h : PrE e) : Fc E n_office_body [Evv e] (S (bodyE e)) := by
 obtain ⟨h1, h2, h3, h4, h5⟩ := h
 have hb := txt_body e
 obtain ⟨nu, ki, ns, vs, tx⟩ := e
 change Fc E n_office_body [.d (.agg [DI nu, .str ki, .list ns.length (ns.map D.str), .list vs.length (vs.map DI), .str tx])] _
 dsimp only at h1 h2 h3 h4 h5 hb
 refine g.fn rfl rfl ?_
 have hm := s_mapItoa g vs (by omega) h4
 have hl : (vs.map decL).length = vs.length := List.length_map _
 have hc := s_Concat3 g ki ns (vs.map decL) (by omega) (by omega)
 have hj := s_Join g (ki :: ns ++ vs.map decL) (by simp) (by simp; omega) (by show (bodyE ⟨nu, ki, ns, vs, tx⟩).length ≤ _; omega)
 unfold bodyE
 repeat' ((conv => whnf); first
 | refine Yz ?_
  | (apply CallI.of; assumption)
  | (refine Ret.mk rfl)
  | fail)
set_option maxHeartbeats 4000000 in
theorem s_record (e : Evt) (h : PrE e) : Fc E n_office_record [Evv e] (S (lineE e ++ [10])) := by
 have hbo := s_body g e h
 have hb := txt_body e
 have hd := o_Dec g e.nu h.nu
 have hln := h.ln
 have hsm := s_sum g (txtE e) h.ln
 have e1 : (decL e.nu ++ [32]) ++ bodyE e = txtE e := by simp [txtE]
 have e2 : ((txtE e ++ [35]) ++ sumT (txtE e)) ++ [10] = lineE e ++ [10] := by simp [lineE]
 have hs := sumT_len (txtE e)
 obtain ⟨nu, ki, ns, vs, tx⟩ := e
 rw [← e2]
 generalize ht : txtE ⟨nu, ki, ns, vs, tx⟩ = t at *
 generalize bodyE ⟨nu, ki, ns, vs, tx⟩ = b at *
 change Fc E n_office_record [.d (.agg [DI nu, .str ki, .list ns.length (ns.map D.str), .list vs.length (vs.map DI), .str tx])] _
 refine g.fn rfl rfl ?_
 dsimp only at e1 hd hb
 repeat' ((conv => whnf); first
 | refine Yz ?_
  | (apply CallI.of; assumption)
  | (refine Need.mk (by simp only [maxStr, List.length_append, List.length_cons, List.length_nil]; omega) ?_; try rw [e1])
  | (refine Ret.mk rfl)
  | fail)
end
end Go.Proofs.YtcbddkeiohdocaaGreatDoor.Co
/-
 Rows of records; the first of errors.
-/
namespace Go.Proofs.YtcbddkeiohdocaaGreatDoor.Co
open Go Go.Evl
theorem flatR_length {α : Type} (cell : α → List D) (w : Nat) (hw : ∀ a, (cell a).length = w) : ∀ l : List α, (l.flatMap cell).length = l.length * w
 | [] => by simp
 | c :: r => by rw [List.flatMap_cons, List.length_append, hw, flatR_length cell w hw r, List.length_cons, Nat.succ_mul]; omega
theorem flatR_drop {α : Type} (cell : α → List D) (w : Nat) (hw : ∀ a, (cell a).length = w) : ∀ (l : List α) (k : Nat), (l.flatMap cell).drop (k * w) = (l.drop k).flatMap cell
 | l, 0 => by simp
 | [], k + 1 => by simp
 | c :: r, k + 1 => by
  rw [List.flatMap_cons, List.drop_succ_cons, ← flatR_drop cell w hw r k, Nat.succ_mul, Nat.add_comm, ← List.drop_drop]
  congr 1
  rw [List.drop_append_of_le_length (by rw [hw]; exact Nat.le_refl _), List.drop_of_length_le (by rw [hw]; exact Nat.le_refl _)]
  rfl
theorem flatR_win {α : Type} (cell : α → List D) (w : Nat) (hw : ∀ a, (cell a).length = w) (l : List α) (k : Nat) (h : k < l.length) : win (l.flatMap cell) (k * w) w = cell l[k] := by
 unfold win
 rw [flatR_drop cell w hw, List.drop_eq_getElem_cons h, List.flatMap_cons, List.take_append_of_le_length (by rw [hw]; exact Nat.le_refl _), List.take_of_length_le (by rw [hw]; exact Nat.le_refl _)]
theorem flatR_get {α : Type} (cell : α → List D) (w : Nat) (hw : ∀ a, (cell a).length = w) (l : List α) (k j : Nat) (h : k < l.length) (hj : j < w) : (l.flatMap cell)[k * w + j]? = (cell l[k])[j]? := by
 rw [← List.getElem?_drop, flatR_drop cell w hw, List.drop_eq_getElem_cons h, List.flatMap_cons, List.getElem?_append_left (by rw [hw]; exact hj)]
theorem PickW.rec {α : Type} {cell : α → List D} {w : Nat} (hw : ∀ a, (cell a).length = w) {l : List α} {i : Int} {K : List D → Prop} (k : Nat) (hi : i = k) (h : k < l.length) (hk : K (cell l[k])) : PickW (l.flatMap cell) (i.toNat * w) w K := by
 subst hi
 rw [Int.toNat_natCast]
 have h1 := flatR_length cell w hw l
 refine ⟨?_, by rw [flatR_win cell w hw l k h]; exact hk⟩
 have h2 : (k + 1) * w ≤ l.length * w := Nat.mul_le_mul_right _ h
 rw [Nat.succ_mul] at h2
 omega
theorem Pick.rec {α : Type} {cell : α → List D} {w : Nat} (hw : ∀ a, (cell a).length = w) {l : List α} {i : Int} {j : Nat} {K : D → Prop} {d : D} (k : Nat) (hi : i = k) (h : k < l.length) (hj : (cell l[k])[j]? = some d) (hk : K d) : Pick (l.flatMap cell) (i.toNat * w + j) K := by
 subst hi
 rw [Int.toNat_natCast]
 have hlt : j < w := by
  have := (List.getElem?_eq_some_iff.1 hj).1
  rwa [hw] at this
 exact ⟨⟨d, by rw [flatR_get cell w hw l k j h hlt]; exact hj, hk⟩⟩
end Go.Proofs.YtcbddkeiohdocaaGreatDoor.Co
/-
 An event's body and a log, as the reference prints them.
-/
namespace Go.Proofs.YtcbddkeiohdocaaGreatDoor.Co
open Go Go.Evl
def tailW (l : List (List UInt8)) : List UInt8 := l.flatMap fun x => 32 :: x
theorem tailW_take {l : List (List UInt8)} {k : Nat} (h : k < l.length) : tailW (l.take (k + 1)) = tailW (l.take k) ++ 32 :: l[k] := by
 unfold tailW
 rw [List.take_add_one, List.getElem?_eq_getElem h, List.flatMap_append]
 simp
theorem tailW_le (l : List (List UInt8)) (k : Nat) : (tailW (l.take k)).length ≤ (tailW l).length := by
 unfold tailW
 conv => rhs; rw [← List.take_append_drop k l]
 rw [List.flatMap_append, List.length_append]
 omega
theorem tailW_app (a b : List (List UInt8)) : tailW (a ++ b) = tailW a ++ tailW b := by
 unfold tailW
 rw [List.flatMap_append]
theorem txt_tail (e : Evt) : txtE e = ((decL e.nu ++ [32]) ++ e.ki) ++ tailW e.ns ++ tailW (e.vs.map decL) := by
 unfold txtE bodyE
 rw [List.cons_append, joined_flat]
 show _ ++ 32 :: (e.ki ++ tailW (e.ns ++ e.vs.map decL)) = _
 rw [tailW_app]
 simp
section
variable {E : Oracle} (g : Good E)
include g
set_option maxRecDepth 100000
set_option maxHeartbeats 4000000 in
theorem r_Body (e : Evt) (h : PrE e) : Fc E n_ref10_Body [Evv e] (S (txtE e)) := by
 obtain ⟨h1, h2, h3, h4, h5⟩ := h
 have ht := txt_tail e
 rw [ht] at h5 ⊢
 obtain ⟨nu, ki, ns, vs, tx⟩ := e
 change Fc E n_ref10_Body [.d (.agg [DI nu, .str ki, .list ns.length (ns.map D.str), .list vs.length (vs.map DI), .str tx])] _
 dsimp only at h1 h2 h3 h4 h5
 dsimp only
 have hd := r_Text10 g nu h1
 refine g.fn rfl rfl ?_
 generalize decL nu = n0 at *
 generalize hp : (n0 ++ [32]) ++ ki = p at *
 have hpl : (n0 ++ [32]).length + ki.length = p.length := by rw [← hp]; simp; omega
 simp only [List.length_append] at h5
 have hpl2 : n0.length + 1 + ki.length = p.length := by rw [← hpl]; simp
 repeat' ((conv => whnf); first
 | refine Yz ?_
  | (apply CallI.of; assumption)
  | (refine Need.mk (by simp only [maxStr, List.length_append, List.length_cons, List.length_nil]; omega) ?_; try rw [hp])
  | fail)
 refine LoopW.to (LoopW.up g (fun k => [(1, .ptr ⟨0, 1, 0⟩ 0 0), (3, S (p ++ tailW (ns.take k))), (4, I k)]) (fun _ => [(⟨0, 1, 0⟩, .cells ty_api_Event [I nu, S ki, Ws ns, LI vs, S tx])]) ns.length (fun k hk ih => ?_) 0 (Nat.zero_le _)) (by simp [tailW]) rfl
 have hle := tailW_le ns k
 by_cases hlt : k < ns.length
 ·have ih := ih hlt
  have hle2 := tailW_le ns (k + 1)
  rw [tailW_take hlt] at ih hle2
  simp only [List.length_append, List.length_cons] at hle2
  repeat' ((conv => whnf); first
  | refine Yz ?_
   | (refine Pick.ws k rfl hlt ?_)
   | (refine Need.mk (by simp only [maxStr, List.length_append, List.length_cons, List.length_nil]; omega) ?_)
   | (refine LoopW.to ih (by simp) rfl)
   | fail)
 ·obtain rfl : k = ns.length := by omega
  rw [List.take_length]
  repeat' ((conv => whnf); first
  | refine Yz ?_
   | fail)
  generalize hq : p ++ tailW ns = q at *
  have hql : p.length + (tailW ns).length = q.length := by rw [← hq, List.length_append]
  have hvl : (vs.map decL).length = vs.length := List.length_map _
  refine LoopW.to (LoopW.up g (fun k => [(1, .ptr ⟨0, 1, 0⟩ 0 0), (3, S (q ++ tailW ((vs.map decL).take k))), (5, I k)]) (fun _ => [(⟨0, 1, 0⟩, .cells ty_api_Event [I nu, S ki, Ws ns, LI vs, S tx])]) vs.length (fun k hk ih => ?_) 0 (Nat.zero_le _)) (by simp [tailW]) rfl
  have hle := tailW_le (vs.map decL) k
  by_cases hlt : k < vs.length
  ·have ih := ih hlt
   have hle2 := tailW_le (vs.map decL) (k + 1)
   have hdk := r_Text10 g vs[k] (h4 _ (List.getElem_mem hlt))
   rw [tailW_take (by omega), List.getElem_map] at ih hle2
   simp only [List.length_append, List.length_cons] at hle2
   repeat' ((conv => whnf); first
   | refine Yz ?_
    | (refine Pick.iw k rfl hlt ?_)
    | (apply CallI.of; assumption)
    | (refine Need.mk (by simp only [maxStr, List.length_append, List.length_cons, List.length_nil]; omega) ?_)
    | (refine LoopW.to ih (by simp) rfl)
    | fail)
  ·obtain rfl : k = vs.length := by omega
   rw [← hvl, List.take_length, hvl]
   repeat' ((conv => whnf); first
   | refine Yz ?_
    | (refine Ret.mk rfl)
    | fail)
end
end Go.Proofs.YtcbddkeiohdocaaGreatDoor.Co
/-
 A log, as the reference prints it.
-/
namespace Go.Proofs.YtcbddkeiohdocaaGreatDoor.Co
open Go Go.Evl
abbrev LE (l : List Evt) : V := .d (.list l.length (l.flatMap Evt.cells))
theorem evw (e : Evt) : e.cells.length = 5 := rfl
theorem logL_take {l : List Evt} {k : Nat} (h : k < l.length) : logL (l.take (k + 1)) = logL (l.take k) ++ (lineE l[k] ++ [10]) := by
 unfold logL
 rw [List.take_add_one, List.getElem?_eq_getElem h, List.flatMap_append]
 simp
theorem logL_le (l : List Evt) (k : Nat) : (logL (l.take k)).length ≤ (logL l).length := by
 unfold logL
 conv => rhs; rw [← List.take_append_drop k l]
 rw [List.flatMap_append, List.length_append]
 omega
section
variable {E : Oracle} (g : Good E)
include g
set_option maxRecDepth 100000
set_option maxHeartbeats 4000000 in
theorem r_Log (l : List Evt) (hl : l.length ≤ 1000000) (h : ∀ e ∈ l, PrE e) (hln : (logL l).length ≤ 1000000) : Fc E n_ref10_Log [LE l] (S (logL l)) := by
 refine g.fn rfl rfl ?_
 repeat' ((conv => whnf); first
 | refine Yz ?_
  | fail)
 refine LoopW.to (LoopW.up g (fun k => [(0, LE l), (3, S (logL (l.take k))), (4, I k)]) (fun _ => []) l.length (fun k hk ih => ?_) 0 (Nat.zero_le _)) rfl rfl
 have hle := logL_le l k
 by_cases hlt : k < l.length
 ·have ih := ih hlt
  have hle2 := logL_le l (k + 1)
  have hpe := h _ (List.getElem_mem hlt)
  have hb := r_Body g l[k] hpe
  have hs := r_Sum g (txtE l[k]) hpe.ln
  have hsl := sumT_len (txtE l[k])
  rw [logL_take hlt] at ih hle2
  unfold lineE at ih hle2
  simp only [List.length_append, List.length_cons, List.length_nil] at hle2
  repeat' ((conv => whnf); first
  | refine Yz ?_
   | (refine PickW.rec evw k rfl hlt ?_)
   | (apply CallI.of; assumption)
   | (refine Need.mk (by simp only [maxStr, List.length_append, List.length_cons, List.length_nil]; omega) ?_)
   | (refine LoopW.to ih (by simp) rfl)
   | fail)
 ·obtain rfl : k = l.length := by omega
  rw [List.take_length]
  repeat' ((conv => whnf); first
  | refine Yz ?_
   | (refine Ret.mk rfl)
   | fail)
end
end Go.Proofs.YtcbddkeiohdocaaGreatDoor.Co
/-
 A log recovered: plain, and by the reference.
-/
namespace Go.Proofs.YtcbddkeiohdocaaGreatDoor.Co
open Go Go.Evl
def recG (l : List Evt) (at0 : Nat) : List (List UInt8) → List Evt × Nat × Int
 | [] => (l, at0, 0)
 | p :: r => if wholeB p = false then (l, at0, 28) else if recB (endW p) l.length ≠ 0 then (l, at0, recB (endW p) l.length) else recG (l ++ [(recE (endW p)).1]) (at0 + p.length) r
def recM (s : List UInt8) : List Evt × Nat × Int := if 1000000 < s.length then ([], 0, 26) else recG [] 0 (pcs s)
abbrev RcV (o : List Evt × Nat × Int) : V := .tup [LE o.1, I (o.2.1 : Nat), I o.2.2]
theorem recG_open {l : List Evt} {i : Nat} {s : List UInt8} (h : s ≠ []) (hn : (10 : UInt8) ∉ s) : recG l i (pcs s) = (l, i, 28) := by
 have hw : wholeB s = false := decide_eq_false fun e => by
  obtain ⟨t, e⟩ := List.getLast?_eq_some_iff.1 e
  exact hn (by rw [e]; simp)
 rw [pcs_end s h hn, recG, if_pos hw]
theorem recG_line {l : List Evt} {i : Nat} {a r : List UInt8} (hn : (10 : UInt8) ∉ a) : recG l i (pcs (a ++ 10 :: r)) = if recB a l.length ≠ 0 then (l, i, recB a l.length) else recG (l ++ [(recE a).1]) (i + (a.length + 1)) (pcs r) := by
 rw [pcs_lf a r hn, recG, (whole_lf _).1, (whole_lf _).2, if_neg (by decide)]
 simp
theorem recB_ok {s : List UInt8} {b : Int} (h : recB s b = 0) : (recE s).2 = 0 ∧ (recE s).1.nu = b + 1 := by
 unfold recB at h
 split at h
 ·rename_i h1; exact absurd h h1
 ·rename_i h1
  split at h
  ·cases h
  ·rename_i h2
   exact ⟨Classical.not_not.1 h1, Classical.not_not.1 h2⟩
end Go.Proofs.YtcbddkeiohdocaaGreatDoor.Co
/-
 A log recovered by the program.
-/
namespace Go.Proofs.YtcbddkeiohdocaaGreatDoor.Co
open Go Go.Evl
section
variable {E : Oracle} (g : Good E)
include g
set_option maxRecDepth 100000
theorem s_Lines (s : List UInt8) : In E 0 n_strings_Lines [S s] [] fun v m' => v = .fn n_strings_Lines_1 [] [.ptr ⟨0, 1, 0⟩ 0 0] ∧ m' = [(⟨0, 1, 0⟩, .cells ty_string [S s])] := by
 refine In.enter (f := n_strings_Lines) g.lim rfl rfl ?_
 repeat' ((conv => whnf); first
 | refine Yz ?_
  | (exact ⟨rfl, rfl⟩))
theorem CallS.lines {s : List UInt8} {cx : Cx} {slot : Nat} {m : Mem} {K : V → Mem → Prop} (hf : Go.Evl.freeK cx.lv slot m = 0) (h : K (.fn n_strings_Lines_1 [] [.ptr ⟨cx.lv, slot, 0⟩ 0 0]) (m ++ [(⟨cx.lv, slot, 0⟩, .cells ty_string [S s])])) : CallS E n_strings_Lines [S s] cx slot m K := by
 obtain ⟨v, m', h1, rfl, rfl⟩ := (s_Lines g s).got
 refine ⟨_, _, (.fn n_strings_Lines_1 [] [.ptr ⟨cx.lv, slot, 0⟩ 0 0], m ++ [(⟨cx.lv, slot, 0⟩, .cells ty_string [S s])]), h1, ?_, h⟩
 unfold Go.Evl.settle
 rw [hf]
 rfl
set_option maxHeartbeats 16000000 in
theorem s_Recover (s0 : List UInt8) : Fc E n_office_Recover [S s0] (RcV (recM s0)) := by
 refine g.fn rfl rfl ?_
 unfold recM
 by_cases hl0 : 1000000 < s0.length
 ·rw [if_pos hl0]
  repeat' ((conv => whnf); first
  | refine Yz ?_
   | (refine Ret.mk rfl)
   | fail)
 rw [if_neg hl0]
 repeat' ((conv => whnf); first
 | refine Yz ?_
  | (refine CallS.lines g rfl ?_)
  | (refine In.enter (f := n_strings_Lines_1) g.lim rfl rfl ?_)
  | fail)
 refine LoopW.to (LoopW.by (σ := List Evt × Nat × List UInt8) g (fun x => x.1.length ≤ x.2.1 ∧ x.2.1 + x.2.2.length ≤ s0.length ∧ recG x.1 x.2.1 (pcs x.2.2) = recG [] 0 (pcs s0))
  (fun _ => [(0, .yld ⟨0, 50, 0⟩), (1, .ptr ⟨0, 16, 0⟩ 0 0)])
  (fun x => [(⟨0, 2, 0⟩, .row false ty_api_Event 5 0 []), (⟨0, 2, 1⟩, .cells ty_Lapi_Event [.ref ⟨0, 2, 0⟩ 0 0 0]), (⟨0, 3, 0⟩, .cells ty_int [I 0]), (⟨0, 4, 0⟩, .cells ty_api_Errno [I 0]), (⟨0, 5, 0⟩, .row false ty_api_Event 5 x.1.length (x.1.flatMap Evt.cells)), (⟨0, 5, 1⟩, .cells ty_Lapi_Event [.ref ⟨0, 5, 0⟩ 0 x.1.length x.1.length]), (⟨0, 6, 0⟩, .cells ty_int [I x.2.1]), (⟨0, 16, 0⟩, .cells ty_string [S x.2.2]),
   (⟨0, 50, 0⟩, .loop [(2, .ptr ⟨0, 2, 1⟩ 0 0), (3, .ptr ⟨0, 3, 0⟩ 0 0), (4, .ptr ⟨0, 4, 0⟩ 0 0), (14, B false), (5, .ptr ⟨0, 5, 1⟩ 0 0), (6, .ptr ⟨0, 6, 0⟩ 0 0), (16, .fn n_strings_Lines_1 [] [.ptr ⟨0, 16, 0⟩ 0 0])] [17] b_office_Recover_1 b_office_Recover_2 0 false false none)])
  (fun x => x.2.2.length) ?_ ([], 0, s0) ⟨Nat.le_refl _, by simp, rfl⟩) rfl rfl
 rintro ⟨l, i, s⟩ ⟨h1, h2, h3⟩ ih
 simp only at h1 h2 h3 ih
 dsimp only
 have hml : (l.flatMap Evt.cells).length = l.length * 5 := flatR_length Evt.cells 5 evw l
 by_cases hs : s = []
 ·subst hs
  rw [pcs_nil, recG] at h3
  rw [← h3]
  repeat' ((conv => whnf); first
  | refine Yz ?_
   | (refine Need.mk ⟨rfl, by decide⟩ ?_)
   | (refine Ret.mk ?_)
   | fail)
  rw [if_pos ⟨rfl, rfl⟩]
 ·rcases pcs_cases s hs with ⟨hn, hp⟩ | ⟨a, r, hn, rfl, hp⟩
  ·have hw : wholeB s = false := decide_eq_false fun e => by
    obtain ⟨t, e⟩ := List.getLast?_eq_some_iff.1 e
    exact hn (by rw [e]; simp)
   have he : endW s = s := by unfold endW; rw [hw]; rfl
   rw [recG_open hs hn] at h3
   rw [← h3]
   have hx := s_IndexLF g s
   rw [indexByte_no s hn] at hx
   have hcut := s_CutLF g s (by omega)
   rw [hw, he] at hcut
   have hpos : s.length ≠ 0 := fun e => hs (List.length_eq_zero_iff.1 e)
   repeat' ((conv => whnf); first
   | refine Yz ?_
    | (refine Rnd.enter g.lim ?_)
    | (refine Bounds.at 0 (a.length + 1) (by omega) (by omega) (by omega) ?_ <;> (try dsimp only) <;> (rw [win_head]))
    | (refine Bounds.at (a.length + 1) (a ++ 10 :: r).length (by omega) (by omega) (by omega) ?_ <;> (try dsimp only) <;> (rw [win_tail]))
    | (refine Bounds.at 0 s.length (by omega) (by omega) (by omega) ?_ <;> (try dsimp only) <;> (rw [win_all]))
    | (apply CallI.of; assumption)
    | (refine Need.mk ⟨rfl, by decide⟩ ?_)
    | (refine Ret.mk ?_)
    | fail)
   rw [if_pos ⟨rfl, rfl⟩]
  ·have hlen : (a ++ 10 :: r).length = a.length + (r.length + 1) := by simp
   have hlen1 : (a ++ [10]).length = a.length + 1 := by simp
   have hx := s_IndexLF g (a ++ 10 :: r)
   rw [indexByte_lf a r hn] at hx
   have hcut := s_CutLF g (a ++ [10]) (by simp; omega)
   rw [(whole_lf _).1, (whole_lf _).2] at hcut
   rw [recG_line hn] at h3
   have hre := s_recorded g a (by omega) l.length (by omega)
   by_cases hz : recB a l.length = 0
   ·rw [if_neg (fun h => h hz)] at h3
    rw [hz] at hre
    have ih := ih (l ++ [(recE a).1], i + (a.length + 1), r) ⟨by simp only [List.length_append, List.length_cons, List.length_nil]; omega, by dsimp only; omega, h3⟩ (by dsimp only; omega)
    simp only [List.length_append, List.length_cons, List.length_nil, List.flatMap_append, List.flatMap_cons, List.flatMap_nil] at ih
    have hie : ((i + (a.length + 1) : Nat) : Int) = (i : Int) + ((a ++ [10]).length : Int) := by omega
    rw [hie] at ih
    generalize (recE a).1 = e at *
    obtain ⟨nu, ki, ns, vs, tx⟩ := e
    simp only [Evt.cells] at ih
    repeat' ((conv => whnf); first
    | refine Yz ?_
     | (refine Rnd.enter g.lim ?_)
     | (refine Bounds.at 0 (a.length + 1) (by omega) (by omega) (by omega) ?_ <;> (try dsimp only) <;> (rw [win_head]))
     | (refine Bounds.at (a.length + 1) (a ++ 10 :: r).length (by omega) (by omega) (by omega) ?_ <;> (try dsimp only) <;> (rw [win_tail]))
     | (refine Bounds.at 0 s.length (by omega) (by omega) (by omega) ?_ <;> (try dsimp only) <;> (rw [win_all]))
     | (apply CallI.of; assumption)
     | (refine Need.mk (by simp only [List.length_cons, List.length_nil]; omega) ?_)
     | (refine Need.mk ⟨rfl, by decide⟩ ?_)
     | (refine LoopW.to ih rfl rfl)
     | fail)
   ·rw [if_pos hz] at h3
    rw [← h3]
    generalize (recE a).1 = e at *
    obtain ⟨nu, ki, ns, vs, tx⟩ := e
    generalize recB a l.length = x at *
    repeat' ((conv => whnf); first
    | refine Yz ?_
     | (refine Rnd.enter g.lim ?_)
     | (refine Bounds.at 0 (a.length + 1) (by omega) (by omega) (by omega) ?_ <;> (try dsimp only) <;> (rw [win_head]))
     | (refine Bounds.at (a.length + 1) (a ++ 10 :: r).length (by omega) (by omega) (by omega) ?_ <;> (try dsimp only) <;> (rw [win_tail]))
     | (refine Bounds.at 0 s.length (by omega) (by omega) (by omega) ?_ <;> (try dsimp only) <;> (rw [win_all]))
     | (apply CallI.of; assumption)
     | (refine Cmp.ff hz ?_)
     | (refine Need.mk ⟨rfl, by decide⟩ ?_)
     | (refine Ret.mk ?_)
     | fail)
    rw [if_pos ⟨rfl, rfl⟩]
end
end Go.Proofs.YtcbddkeiohdocaaGreatDoor.Co
/-
 A log, plain: what is recovered is printed as it was.
-/
namespace Go.Proofs.YtcbddkeiohdocaaGreatDoor.Co
open Go Go.Evl
theorem form_ge {k : List UInt8} (h : isKind k = true) : 1 ≤ formN k ∧ 1 ≤ formV k := by
 rcases kind_cases k with rfl | rfl | rfl | rfl | rfl | rfl | ⟨h1, h2, h3, h4, h5, h6⟩
 all_goals (try (exact ⟨by decide, by decide⟩))
 exfalso
 unfold isKind at h
 simp only [Bool.or_eq_true, decide_eq_true_eq] at h
 rcases h with ((((h | h) | h) | h) | h) | h
 ·exact h1 h
 ·exact h2 h
 ·exact h3 h
 ·exact h4 h
 ·exact h5 h
 ·exact h6 h
theorem decL_int {s : List UInt8} (h : isInt s = true) : decL (intD s) = s := by
 unfold isInt at h
 unfold intD
 cases hn : numD s with
 | none => rw [hn] at h; cases h
 | some n => exact numD_text hn
theorem okW_all {k : List UInt8} {r : List (List UInt8)} (h : okWs k r = true) : isKind k = true ∧ r.length = formN k + formV k ∧ ∀ x ∈ r.drop (formN k), isInt x = true := by
 unfold okWs at h
 simp only [Bool.and_eq_true, decide_eq_true_eq] at h
 exact ⟨h.1.1.1, h.1.1.2, List.all_eq_true.1 h.2⟩
theorem parE_back {s : List UInt8} {e : Evt} (h : parE s = some e) : bodyE e = s := by
 unfold parE at h
 split at h
 ·cases h
 ·rename_i k r hp
  split at h
  ·rename_i hok
   obtain rfl := Option.some.inj h
   obtain ⟨_, _, h3⟩ := okW_all hok
   unfold bodyE evW
   have e1 : ((r.drop (formN k)).map intD).map decL = r.drop (formN k) := by
    rw [List.map_map]
    conv => rhs; rw [← List.map_id (r.drop (formN k))]
    exact List.map_congr_left fun x hx => decL_int (h3 x hx)
   show joined 32 (k :: r.take (formN k) ++ ((r.drop (formN k)).map intD).map decL) = s
   rw [e1, List.cons_append, List.take_append_drop, ← hp]
   exact joined_parts 32 s
  ·cases h
theorem parE_form {s : List UInt8} {e : Evt} (h : parE s = some e) : (1 ≤ e.ns.length ∧ e.ns.length ≤ 3) ∧ (1 ≤ e.vs.length ∧ e.vs.length ≤ 4) ∧ ∀ x ∈ e.vs, 0 ≤ x ∧ x ≤ 999999999 := by
 unfold parE at h
 split at h
 ·cases h
 ·rename_i k r hp
  split at h
  ·rename_i hok
   obtain rfl := Option.some.inj h
   obtain ⟨h1, h2, h3⟩ := okW_all hok
   have ⟨f1, f2⟩ := form_ge h1
   have ⟨g1, g2⟩ := form_le k
   unfold evW
   dsimp only
   rw [List.length_take, List.length_map, List.length_drop]
   refine ⟨by omega, by omega, fun x hx => ?_⟩
   obtain ⟨y, _, rfl⟩ := List.mem_map.1 hx
   exact intD_le y
  ·cases h
theorem textE_back {t : List UInt8} {e : Evt} (h : textE t = some e) : txtE e = t ∧ chkE e = 0 ∧ (t.length ≤ 1000000 → PrE e) := by
 rcases text_cases t with ⟨_, _, ht⟩ | ⟨n, r, _, hth, _, ht⟩
 ·rw [ht] at h; cases h
 ·rw [ht] at h
  split at h
  ·rename_i hi
   split at h
   ·rename_i e' hp
    split at h
    ·rename_i hc
     obtain rfl := Option.some.inj h
     have hb := parE_back hp
     obtain ⟨p1, p2, p3⟩ := parE_form hp
     have ht' : txtE { e' with nu := intD n } = t := by
      unfold txtE
      show decL (intD n) ++ 32 :: bodyE e' = t
      rw [hb, decL_int hi, hth]
     exact ⟨ht', hc, fun hl => ⟨intD_le n, ⟨p1.1, by show e'.ns.length ≤ 1000; omega⟩, ⟨p2.1, by show e'.vs.length ≤ 1000; omega⟩, p3, by rw [ht']; exact hl⟩⟩
    ·cases h
   ·cases h
  ·cases h
theorem recE_back {s : List UInt8} (h : (recE s).2 = 0) : lineE (recE s).1 = s ∧ chkE (recE s).1 = 0 ∧ (s.length ≤ 1000000 → PrE (recE s).1) := by
 by_cases h8 : s.length < 8
 ·rw [recE_short h8] at h; cases h
 ·obtain ⟨t, x, c, rfl, h7⟩ := cut_at (Nat.le_of_not_lt h8)
  have hE := recE_app (t := t) (x := x) h7
  split at hE
  ·rw [hE] at h; cases h
  ·rename_i hx
   split at hE
   ·rw [hE] at h; cases h
   ·rename_i hc
    rw [hE] at h ⊢
    cases ht : textE t with
    | none => rw [ht] at h; cases h
    | some e =>
     obtain ⟨b1, b2, b3⟩ := textE_back ht
     have hx' : x = 35 := Classical.byContradiction fun e => hx (.inl e)
     have hc' : c = sumT t := Classical.not_not.1 hc
     refine ⟨?_, b2, fun hl => b3 ?_⟩
     ·show lineE e = _
      unfold lineE
      rw [b1, hx', hc']
     ·rw [List.length_append] at hl; omega
theorem logL_app (a b : List Evt) : logL (a ++ b) = logL a ++ logL b := List.flatMap_append ..
theorem logL_one (e : Evt) : logL [e] = lineE e ++ [10] := by unfold logL; simp
theorem recG_back : ∀ (n : Nat) (s : List UInt8), s.length ≤ n → n ≤ 1000000 → ∀ (l0 : List Evt) (i : Nat) (l : List Evt) (j : Nat) (x : Int), recG l0 i (pcs s) = (l, j, x) → (∀ e ∈ l0, PrE e ∧ chkE e = 0) →
  (∀ e ∈ l, PrE e ∧ chkE e = 0) ∧ l0.length ≤ l.length ∧ l.length ≤ l0.length + s.length ∧ (x = 0 → logL l = logL l0 ++ s)
 | 0, s, hs, _, l0, i, l, j, x, h, h0 => by
  obtain rfl := List.length_eq_zero_iff.1 (Nat.le_zero.1 hs)
  rw [pcs_nil, recG] at h
  obtain ⟨rfl, _, rfl⟩ : l0 = l ∧ i = j ∧ (0 : Int) = x := by simpa using h
  exact ⟨h0, Nat.le_refl _, by simp, fun _ => by simp⟩
 | n + 1, s, hs, hn, l0, i, l, j, x, h, h0 => by
  by_cases he : s = []
  ·exact recG_back 0 s (by rw [he]; simp) (by omega) l0 i l j x h h0
  ·rcases pcs_cases s he with ⟨hnl, hp⟩ | ⟨a, r, hnl, rfl, hp⟩
   ·rw [recG_open he hnl] at h
    obtain ⟨rfl, _, rfl⟩ : l0 = l ∧ i = j ∧ (28 : Int) = x := by simpa using h
    exact ⟨h0, Nat.le_refl _, by omega, fun h => by cases h⟩
   ·have hlen : (a ++ 10 :: r).length = a.length + (r.length + 1) := by simp
    rw [recG_line hnl] at h
    split at h
    ·rename_i hz
     obtain ⟨rfl, _, rfl⟩ : l0 = l ∧ i = j ∧ recB a l0.length = x := by simpa using h
     exact ⟨h0, Nat.le_refl _, by omega, fun h => absurd h hz⟩
    ·rename_i hz
     obtain ⟨z1, z2⟩ := recB_ok (Classical.not_not.1 hz)
     obtain ⟨b1, b2, b3⟩ := recE_back z1
     have ih := recG_back n r (by omega) (by omega) _ _ _ _ _ h (fun e hm => by
      rcases List.mem_append.1 hm with hm | hm
      ·exact h0 e hm
      ·rw [List.mem_singleton] at hm
       subst hm
       exact ⟨b3 (by omega), b2⟩)
     rw [List.length_append, List.length_singleton] at ih
     obtain ⟨i1, i2, i3, i4⟩ := ih
     refine ⟨i1, by omega, by omega, fun hx => ?_⟩
     rw [i4 hx, logL_app, logL_one, b1]
     simp
theorem recM_back {s : List UInt8} (hs : s.length ≤ 1000000) : (∀ e ∈ (recM s).1, PrE e ∧ chkE e = 0) ∧ (recM s).1.length ≤ s.length ∧ ((recM s).2.2 = 0 → logL (recM s).1 = s) := by
 unfold recM
 rw [if_neg (by omega)]
 obtain ⟨h1, _, h3, h4⟩ := recG_back s.length s (Nat.le_refl _) hs [] 0 _ _ _ rfl (fun e h => absurd h List.not_mem_nil)
 exact ⟨h1, by simpa using h3, fun h => by simpa [logL] using h4 h⟩
theorem tailW_bound {l : List (List UInt8)} {m : Nat} (h : ∀ x ∈ l, x.length ≤ m) : (tailW l).length ≤ l.length * (m + 1) := by
 induction l with
 | nil => simp [tailW]
 | cons x r ih =>
  have := h x (by simp)
  have ih := ih fun y hy => h y (by simp [hy])
  unfold tailW at ih ⊢
  rw [List.flatMap_cons, List.length_append, List.length_cons, List.length_cons, Nat.succ_mul]
  omega
structure ShortE (e : Evt) : Prop where
 ki : e.ki.length ≤ 60
 ns : e.ns.length ≤ 6
 vs : e.vs.length ≤ 8
 na : ∀ x ∈ e.ns, x.length ≤ 60
theorem chkE_ok {e : Evt} (h : chkE e = 0) : (1 ≤ e.nu ∧ e.nu ≤ 1000) ∧ isKind e.ki = true ∧ e.ns.length = formN e.ki ∧ e.vs.length = formV e.ki ∧ far e.vs = false := by
 unfold chkE at h
 rw [firstI_zero] at h
 have h1 := h (rng e.nu 1 1000) (by simp)
 have h2 := h (if !isKind e.ki then 13 else 0) (by simp)
 have h3 := h (if e.ns.length ≠ formN e.ki ∨ e.vs.length ≠ formV e.ki then 2 else 0) (by simp)
 have h5 := h (if far e.vs then 3 else 0) (by simp)
 refine ⟨?_, ?_, ?_, ?_, ?_⟩
 ·unfold rng at h1
  split at h1
  ·cases h1
  ·omega
 ·cases hk : isKind e.ki with
  | true => rfl
  | false => rw [hk] at h2; cases h2
 ·split at h3
  ·cases h3
  ·omega
 ·split at h3
  ·cases h3
  ·omega
 ·cases hk : far e.vs with
  | false => rfl
  | true => rw [hk] at h5; cases h5
theorem short_pr {e : Evt} (hs : ShortE e) (h : chkE e = 0) : PrE e ∧ (txtE e).length ≤ 1000 := by
 obtain ⟨h1, h2, h3, h4, h5⟩ := chkE_ok h
 have ⟨f1, f2⟩ := form_ge h2
 obtain ⟨s1, s2, s3, s4⟩ := hs
 have hva : ∀ x ∈ e.vs, 0 ≤ x ∧ x ≤ 999999999 := fun x hx => by
  unfold far at h5
  rw [List.any_eq_false] at h5
  have := h5 x hx
  unfold farV at this
  simp only [decide_eq_true_eq] at this
  omega
 have hln : (txtE e).length ≤ 1000 := by
  rw [txt_tail]
  have t1 := tailW_bound s4
  have t2 : (tailW (e.vs.map decL)).length ≤ e.vs.length * 21 := by
   have := tailW_bound (l := e.vs.map decL) (m := 20) fun x hx => by
    obtain ⟨y, _, rfl⟩ := List.mem_map.1 hx
    exact decL_len y
   rwa [List.length_map] at this
  have t3 := decL_len e.nu
  have t4 : e.ns.length * (60 + 1) ≤ 6 * 61 := Nat.mul_le_mul_right _ s2
  have t5 : e.vs.length * 21 ≤ 8 * 21 := Nat.mul_le_mul_right _ s3
  simp only [List.length_append, List.length_cons, List.length_nil]
  omega
 exact ⟨⟨by omega, by omega, by omega, hva, by omega⟩, hln⟩
end Go.Proofs.YtcbddkeiohdocaaGreatDoor.Co
/-
 Short events, and equal ones.
-/
namespace Go.Proofs.YtcbddkeiohdocaaGreatDoor.Co
open Go Go.Evl
def shortB (e : Evt) : Bool := decide (e.ki.length ≤ 60) && decide (e.ns.length ≤ 6) && decide (e.vs.length ≤ 8) && decide (e.tx.length ≤ 60) && e.ns.all fun x => decide (x.length ≤ 60)
theorem short_no (l : List Evt) (k : Nat) (h : k < l.length) (hs : shortB l[k] = false) : l.all shortB = false := by
 rw [List.all_eq_false]
 exact ⟨l[k], List.getElem_mem h, by rw [hs]; decide⟩
section
variable {E : Oracle} (g : Good E)
include g
set_option maxRecDepth 100000
set_option maxHeartbeats 16000000 in
theorem r_ShortEvents (l : List Evt) (n : Int) (hn : n ≤ 1000) (hl : l.length ≤ 9223372036854775807) (hb : ∀ e ∈ l, e.ns.length ≤ 9223372036854775807 ∧ e.vs.length ≤ 9223372036854775807 ∧ e.ki.length ≤ 9223372036854775807 ∧ e.tx.length ≤ 9223372036854775807 ∧ ∀ x ∈ e.ns, x.length ≤ 9223372036854775807) :
  Fc E n_ref10_ShortEvents [LE l, I n] (B (decide ((l.length : Int) ≤ n) && l.all shortB)) := by
 refine g.fn rfl rfl ?_
 by_cases h0 : n < l.length
 ·rw [decide_eq_false (by omega), Bool.false_and]
  repeat' ((conv => whnf); first
  | refine Yz ?_
   | (refine Ret.mk rfl)
   | fail)
 rw [decide_eq_true (by omega), Bool.true_and]
 repeat' ((conv => whnf); first
 | refine Yz ?_
  | fail)
 refine LoopW.to (LoopW.upP g (fun k => [(0, LE l), (5, I k)]) (fun _ => []) (fun k => ∀ j, (hj : j < l.length) → j < k → shortB l[j] = true) l.length (fun k hk hp ih => ?_) 0 (Nat.zero_le _) (fun j _ h => absurd h (Nat.not_lt_zero _))) rfl rfl
 by_cases hlt : k < l.length
 ·obtain ⟨b1, b2, b3, b4, b5⟩ := hb _ (List.getElem_mem hlt)
  have hnot : shortB l[k] = false → l.all shortB = false := short_no l k hlt
  have ih1 : shortB l[k] = true → _ := fun hs => ih hlt fun j hj hjk => by
   by_cases e : j = k
   ·subst e; exact hs
   ·exact hp j hj (by omega)
  have hsb : shortB l[k] = (decide (l[k].ki.length ≤ 60) && decide (l[k].ns.length ≤ 6) && decide (l[k].vs.length ≤ 8) && decide (l[k].tx.length ≤ 60) && l[k].ns.all fun x => decide (x.length ≤ 60)) := rfl
  rw [hsb] at hnot ih1
  by_cases h1 : l[k].ki.length ≤ 60
  ·by_cases h2 : l[k].ns.length ≤ 6
   ·by_cases h3 : l[k].vs.length ≤ 8
    ·by_cases h4 : l[k].tx.length ≤ 60
     ·rw [decide_eq_true h1, decide_eq_true h2, decide_eq_true h3, decide_eq_true h4] at hnot ih1
      simp only [Bool.true_and] at hnot ih1
      repeat' ((conv => whnf); first
      | refine Yz ?_
       | (refine Pick.rec evw k rfl hlt rfl ?_)
       | fail)
      refine LoopW.to (LoopW.upP g (fun j => [(0, LE l), (5, I k), (6, I j)]) (fun _ => []) (fun j => ∀ i, (hi : i < l[k].ns.length) → i < j → l[k].ns[i].length ≤ 60) l[k].ns.length (fun j hj hq ihj => ?_) 0 (Nat.zero_le _) (fun i _ h => absurd h (Nat.not_lt_zero _))) rfl rfl
      by_cases hjt : j < l[k].ns.length
      ·have b6 := b5 _ (List.getElem_mem hjt)
       by_cases hx : l[k].ns[j].length ≤ 60
       ·have ihj := ihj hjt fun i hi hij => by
         by_cases e : i = j
         ·subst e; exact hx
         ·exact hq i hi (by omega)
        repeat' ((conv => whnf); first
        | refine Yz ?_
         | (refine Pick.rec evw k rfl hlt rfl ?_)
         | (refine Pick.ws j rfl hjt ?_)
         | (refine LoopW.to ihj rfl rfl)
         | fail)
       ·rw [hnot (by rw [List.all_eq_false]; exact ⟨l[k].ns[j], List.getElem_mem hjt, by simpa using hx⟩)]
        repeat' ((conv => whnf); first
        | refine Yz ?_
         | (refine Pick.rec evw k rfl hlt rfl ?_)
         | (refine Pick.ws j rfl hjt ?_)
         | (refine Ret.mk rfl)
         | fail)
      ·obtain rfl : j = l[k].ns.length := by omega
       have ih := ih1 (by
        rw [List.all_eq_true]
        intro x hx
        obtain ⟨i, hi, rfl⟩ := List.mem_iff_getElem.1 hx
        simpa using hq i hi hi)
       repeat' ((conv => whnf); first
       | refine Yz ?_
        | (refine Pick.rec evw k rfl hlt rfl ?_)
        | (refine LoopW.to ih rfl rfl)
        | fail)
     ·rw [decide_eq_false h4] at hnot
      rw [hnot (by simp)]
      repeat' ((conv => whnf); first
      | refine Yz ?_
       | (refine Pick.rec evw k rfl hlt rfl ?_)
       | (refine Ret.mk rfl)
       | fail)
    ·rw [decide_eq_false h3] at hnot
     rw [hnot (by simp)]
     repeat' ((conv => whnf); first
     | refine Yz ?_
      | (refine Pick.rec evw k rfl hlt rfl ?_)
      | (refine Ret.mk rfl)
      | fail)
   ·rw [decide_eq_false h2] at hnot
    rw [hnot (by simp)]
    repeat' ((conv => whnf); first
    | refine Yz ?_
     | (refine Pick.rec evw k rfl hlt rfl ?_)
     | (refine Ret.mk rfl)
     | fail)
  ·rw [decide_eq_false h1] at hnot
   rw [hnot (by simp)]
   repeat' ((conv => whnf); first
   | refine Yz ?_
    | (refine Pick.rec evw k rfl hlt rfl ?_)
    | (refine Ret.mk rfl)
    | fail)
 ·obtain rfl : k = l.length := by omega
  have : l.all shortB = true := by
   rw [List.all_eq_true]
   intro x hx
   obtain ⟨i, hi, rfl⟩ := List.mem_iff_getElem.1 hx
   exact hp i hi hi
  rw [this]
  repeat' ((conv => whnf); first
  | refine Yz ?_
   | (refine Ret.mk rfl)
   | fail)
end
end Go.Proofs.YtcbddkeiohdocaaGreatDoor.Co
/-
 Append: a log with one more record.
-/
namespace Go.Proofs.YtcbddkeiohdocaaGreatDoor.Co
open Go Go.Evl
def appO (s : List UInt8) (e : Evt) : List UInt8 × Int :=
 if firstI [(recM s).2.2, chkE e, if e.nu = (recM s).1.length + 1 then 0 else 11] = 0 then (s ++ (lineE e ++ [10]), 0)
 else ([], firstI [(recM s).2.2, chkE e, if e.nu = (recM s).1.length + 1 then 0 else 11])
theorem short_of {e : Evt} (h : shortB e = true) : ShortE e := by
 unfold shortB at h
 simp only [Bool.and_eq_true, decide_eq_true_eq, List.all_eq_true] at h
 exact ⟨h.1.1.1.1, h.1.1.1.2, h.1.1.2, h.2⟩
section
variable {E : Oracle} (g : Good E)
include g
set_option maxRecDepth 100000
set_option maxHeartbeats 16000000 in
theorem s_Append (s : List UInt8) (e : Evt) (hs : s.length ≤ 990000) (he : ShortE e) : Fc E n_office_Append [S s, Evv e] (.tup [S (appO s e).1, I (appO s e).2]) := by
 have hr := s_Recover g s
 have ⟨_, hll, _⟩ := recM_back (s := s) (by omega)
 have hce := s_CheckEvent g e (by have := he.ns; omega) (by have := he.vs; omega)
 have hlast : ∀ a b c : Int, Fc E n_office_first [.d (.list 3 [DI a, DI b, DI c])] (I (firstI [a, b, c])) := fun a b c => s_ofirst g [a, b, c] (by simp)
 have hw1 : Fc E n_office_when [B true, I 11] (I 11) := s_owhen g true 11
 have hw0 : Fc E n_office_when [B false, I 11] (I 0) := s_owhen g false 11
 have hsp : firstI [(recM s).2.2, chkE e, if e.nu = (recM s).1.length + 1 then 0 else 11] = 0 → Fc E n_office_record [Evv e] (S (lineE e ++ [10])) ∧ (lineE e).length ≤ 2000 := fun h => by
  rw [firstI_zero] at h
  obtain ⟨h1, h2⟩ := short_pr he (h (chkE e) (by simp))
  exact ⟨s_record g e h1, by rw [line_len]; omega⟩
 unfold appO
 generalize hR : recM s = R at *
 obtain ⟨l, i, x⟩ := R
 dsimp only at hll hsp ⊢
 change Fc E n_office_Recover [S s] (.tup [LE l, I (i : Nat), I x]) at hr
 generalize chkE e = y at *
 generalize lineE e = le at *
 obtain ⟨nu, ki, ns, vs, tx⟩ := e
 dsimp only at hsp ⊢
 change Fc E n_office_Append [S s, .d (.agg [DI nu, .str ki, .list ns.length (ns.map D.str), .list vs.length (vs.map DI), .str tx])] _
 have hlen : (s ++ (le ++ [10])).length = s.length + (le.length + 1) := by simp
 refine g.fn rfl rfl ?_
 by_cases hnu : nu = l.length + 1
 ·rw [if_pos hnu] at hsp ⊢
  have hf := hlast x y 0
  generalize firstI [x, y, 0] = z at *
  by_cases hz : z = 0
  ·rw [if_pos hz]
   obtain ⟨h1, h2⟩ := hsp hz
   repeat' ((conv => whnf); first
   | refine Yz ?_
    | (apply CallI.of; assumption)
    | (refine Cmp.tt hz ?_)
    | (refine Cmp.ff (fun h => h hnu) ?_)
    | (refine Cmp.tt hnu ?_)
    | (refine Need.mk (by simp only [maxStr, List.length_append, List.length_cons, List.length_nil]; omega) ?_)
    | (refine Ret.mk rfl)
    | fail)
  ·rw [if_neg hz]
   repeat' ((conv => whnf); first
   | refine Yz ?_
    | (apply CallI.of; assumption)
    | (refine Cmp.ff hz ?_)
    | (refine Ret.mk rfl)
    | fail)
 ·rw [if_neg hnu] at hsp ⊢
  have hf := hlast x y 11
  generalize firstI [x, y, 11] = z at *
  by_cases hz : z = 0
  ·rw [if_pos hz]
   obtain ⟨h1, h2⟩ := hsp hz
   repeat' ((conv => whnf); first
   | refine Yz ?_
    | (apply CallI.of; assumption)
    | (refine Cmp.tt hz ?_)
    | (refine Need.mk (by simp only [maxStr, List.length_append, List.length_cons, List.length_nil]; omega) ?_)
    | (refine Ret.mk rfl)
    | fail)
  ·rw [if_neg hz]
   repeat' ((conv => whnf); first
   | refine Yz ?_
    | (apply CallI.of; assumption)
    | (refine Cmp.ff hz ?_)
    | (refine Ret.mk rfl)
    | fail)
end
end Go.Proofs.YtcbddkeiohdocaaGreatDoor.Co
/-
 Equal lists are equal, says the reference.
-/
namespace Go.Proofs.YtcbddkeiohdocaaGreatDoor.Co
open Go Go.Evl
section
variable {E : Oracle} (g : Good E)
include g
set_option maxRecDepth 100000
theorem r_SameW (l : List (List UInt8)) (hl : l.length ≤ 1000000) : Fc E n_ref01_SameWords [Ws l, Ws l] (B true) := by
 refine g.fn rfl rfl ?_
 repeat' ((conv => whnf); first
 | refine Yz ?_)
 refine LoopW.to (LoopW.up g (fun k => [(0, Ws l), (1, Ws l), (5, I k)]) (fun _ => []) l.length (fun k hk ih => ?_) 0 (Nat.zero_le _)) rfl rfl
 by_cases hlt : k < l.length
 ·have ih := ih hlt
  repeat' ((conv => whnf); first
  | refine Yz ?_
   | (refine Pick.ws k rfl hlt ?_)
   | (refine Cmp.tt rfl ?_)
   | (refine LoopW.to ih rfl rfl))
 ·repeat' ((conv => whnf); first
 | refine Yz ?_
   | (refine Ret.mk rfl))
theorem r_SameI (l : List Int) (hl : l.length ≤ 1000000) : Fc E n_ref01_SameInts [LI l, LI l] (B true) := by
 refine g.fn rfl rfl ?_
 repeat' ((conv => whnf); first
 | refine Yz ?_)
 refine LoopW.to (LoopW.up g (fun k => [(0, LI l), (1, LI l), (5, I k)]) (fun _ => []) l.length (fun k hk ih => ?_) 0 (Nat.zero_le _)) rfl rfl
 by_cases hlt : k < l.length
 ·have ih := ih hlt
  repeat' ((conv => whnf); first
  | refine Yz ?_
   | (refine Pick.iw k rfl hlt ?_)
   | (refine LoopW.to ih rfl rfl))
 ·repeat' ((conv => whnf); first
 | refine Yz ?_
   | (refine Ret.mk rfl))
set_option maxHeartbeats 4000000 in
theorem r_SameE (l : List Evt) (hl : l.length ≤ 1000000) (h : ∀ e ∈ l, e.ns.length ≤ 1000000 ∧ e.vs.length ≤ 1000000) : Fc E n_ref10_SameEvents [LE l, LE l] (B true) := by
 refine g.fn rfl rfl ?_
 repeat' ((conv => whnf); first
 | refine Yz ?_)
 refine LoopW.to (LoopW.up g (fun k => [(0, LE l), (1, LE l), (5, I k)]) (fun _ => []) l.length (fun k hk ih => ?_) 0 (Nat.zero_le _)) rfl rfl
 by_cases hlt : k < l.length
 ·have ih := ih hlt
  obtain ⟨b1, b2⟩ := h _ (List.getElem_mem hlt)
  have hw := r_SameW g l[k].ns b1
  have hi := r_SameI g l[k].vs b2
  repeat' ((conv => whnf); first
  | refine Yz ?_
   | (refine Pick.rec evw k rfl hlt rfl ?_)
   | (refine Cmp.tt rfl ?_)
   | (apply CallI.of; assumption)
   | (refine LoopW.to ih rfl rfl)
   | fail)
 ·repeat' ((conv => whnf); first
 | refine Yz ?_
   | (refine Ret.mk rfl))
end
end Go.Proofs.YtcbddkeiohdocaaGreatDoor.Co
/-
 A log recovered by the reference.
-/
namespace Go.Proofs.YtcbddkeiohdocaaGreatDoor.Co
open Go Go.Evl
structure RSt where
 l : List Evt
 f : Nat
 i : Nat
structure RSt.Inv (s : List UInt8) (st : RSt) : Prop where
 le : st.f ≤ st.i ∧ st.i ≤ s.length
 ll : st.l.length ≤ st.f
 no : ∀ j, st.f ≤ j → j < st.i → s.getD j 0 ≠ 10
 res : recG st.l st.f (pcs (s.drop st.f)) = recG [] 0 (pcs s)
theorem win_line {s : List UInt8} {f i : Nat} (hf : f ≤ i) (hi : i < s.length) (h : s.getD i 0 = 10) (hn : ∀ j, f ≤ j → j < i → s.getD j 0 ≠ 10) :
  s.drop f = win s f (i - f) ++ 10 :: s.drop (i + 1) ∧ (10 : UInt8) ∉ win s f (i - f) ∧ (win s f (i - f)).length = i - f := by
 have hd := drop_eq_win (s := s) hf
 have hcons : s.drop i = 10 :: s.drop (i + 1) := by
  rw [List.drop_eq_getElem_cons hi]
  have : s[i] = 10 := by simpa [List.getD, hi] using h
  rw [this]
 refine ⟨by rw [hd, hcons], fun hm => ?_, ?_⟩
 ·obtain ⟨j, j1, j2, _, j4⟩ := mem_win hm
  exact hn j j1 j2 j4
 ·unfold win
  rw [List.length_take, List.length_drop]; omega
section
variable {E : Oracle} (g : Good E)
include g
set_option maxRecDepth 100000
set_option maxHeartbeats 16000000 in
theorem r_Recover (s : List UInt8) : Fc E n_ref10_Recover [S s] (RcV (recM s)) := by
 refine g.fn rfl rfl ?_
 unfold recM
 by_cases hl0 : 1000000 < s.length
 ·rw [if_pos hl0]
  repeat' ((conv => whnf); first
  | refine Yz ?_
   | (refine Ret.mk rfl)
   | fail)
 rw [if_neg hl0]
 repeat' ((conv => whnf); first
 | refine Yz ?_
  | fail)
 refine LoopW.to (LoopW.by (σ := RSt) g (RSt.Inv s)
  (fun x => [(0, S s), (5, .ref ⟨0, 5, 0⟩ 0 x.l.length x.l.length), (6, I x.f), (7, I x.i)])
  (fun x => [(⟨0, 2, 0⟩, .row false ty_api_Event 5 0 []), (⟨0, 5, 0⟩, .row false ty_api_Event 5 x.l.length (x.l.flatMap Evt.cells))])
  (fun x => s.length - x.i) ?_ ⟨[], 0, 0⟩ ⟨⟨Nat.le_refl _, Nat.zero_le _⟩, Nat.le_refl _, fun j _ h => absurd h (Nat.not_lt_zero _), rfl⟩) rfl rfl
 rintro ⟨l, f, i⟩ ⟨⟨h1, h1'⟩, h2, h3, h4⟩ ih
 simp only at h1 h1' h2 h3 h4 ih
 dsimp only
 have hml : (l.flatMap Evt.cells).length = l.length * 5 := flatR_length Evt.cells 5 evw l
 have hb := toNat_u8 (s.getD i 0)
 by_cases hlt : i < s.length
 ·by_cases hc : s.getD i 0 = 10
  ·have hc' : (s.getD i 0).toNat = 10 := by rw [hc]; rfl
   obtain ⟨hd, hn, hwl⟩ := win_line h1 hlt hc h3
   rw [hd, recG_line hn, hwl] at h4
   have hre := r_record g (win s f (i - f)) (by omega)
   by_cases hz : recB (win s f (i - f)) l.length = 0
   ·obtain ⟨z1, z2⟩ := recB_ok hz
    rw [if_neg (fun h => h hz)] at h4
    rw [z1] at hre
    have ih := ih ⟨l ++ [(recE (win s f (i - f))).1], i + 1, i + 1⟩ ⟨⟨Nat.le_refl _, by dsimp only; omega⟩, by simp only [List.length_append, List.length_cons, List.length_nil]; omega, fun j h h' => by dsimp only at h h'; omega, by
     dsimp only
     rw [← h4, show f + (i - f + 1) = i + 1 by omega]⟩ (by dsimp only; omega)
    simp only [List.length_append, List.length_cons, List.length_nil, List.flatMap_append, List.flatMap_cons, List.flatMap_nil] at ih
    generalize (recE (win s f (i - f))).1 = e at *
    obtain ⟨nu, ki, ns, vs, tx⟩ := e
    dsimp only at z2
    simp only [Evt.cells] at ih
    repeat' ((conv => whnf); first
    | refine Yz ?_
     | (refine PickB.at i (by omega) hlt ?_)
     | (refine Bounds.mk (by omega) ?_)
     | (apply CallI.of; assumption)
     | (refine Need.mk (by simp only [List.length_cons, List.length_nil]; omega) ?_)
     | (refine Need.mk ⟨rfl, by decide⟩ ?_)
     | (refine LoopW.to ih rfl rfl)
     | fail)
   ·rw [if_pos hz] at h4
    rw [← h4]
    generalize hrb : recB (win s f (i - f)) l.length = x at *
    unfold recB at hrb
    generalize recE (win s f (i - f)) = q at *
    obtain ⟨⟨nu, ki, ns, vs, tx⟩, y⟩ := q
    dsimp only at hrb hre
    by_cases hy : y = 0
    ·subst hy
     rw [if_neg (fun h => h rfl)] at hrb
     have hnu : nu ≠ l.length + 1 := fun e => by
      rw [if_neg (fun h => h e)] at hrb
      exact hz hrb.symm
     rw [if_pos hnu] at hrb
     subst hrb
     repeat' ((conv => whnf); first
     | refine Yz ?_
      | (refine PickB.at i (by omega) hlt ?_)
      | (refine Bounds.mk (by omega) ?_)
      | (apply CallI.of; assumption)
      | (refine Need.mk ⟨rfl, by decide⟩ ?_)
      | (refine Ret.mk ?_)
      | fail)
     rw [if_pos ⟨rfl, rfl⟩]
    ·rw [if_pos hy] at hrb
     subst hrb
     repeat' ((conv => whnf); first
     | refine Yz ?_
      | (refine PickB.at i (by omega) hlt ?_)
      | (refine Bounds.mk (by omega) ?_)
      | (apply CallI.of; assumption)
      | (refine Cmp.ff hy ?_)
      | (refine Need.mk ⟨rfl, by decide⟩ ?_)
      | (refine Ret.mk ?_)
      | fail)
     rw [if_pos ⟨rfl, rfl⟩]
  ·have hc' : (s.getD i 0).toNat ≠ 10 := fun e => hc (UInt8.toNat_inj.1 e)
   have ih := ih ⟨l, f, i + 1⟩ ⟨⟨by dsimp only; omega, by dsimp only; omega⟩, h2, fun j j1 j2 => by
    dsimp only at j1 j2
    by_cases e : j = i
    ·subst e; exact hc
    ·exact h3 j j1 (by omega), h4⟩ (by dsimp only; omega)
   repeat' ((conv => whnf); first
   | refine Yz ?_
    | (refine PickB.at i (by omega) hlt ?_)
    | (refine LoopW.to ih rfl rfl)
    | fail)
 ·obtain rfl : i = s.length := by omega
  by_cases hf : f < s.length
  ·have hne : s.drop f ≠ [] := fun e => by
    have := congrArg List.length e
    rw [List.length_drop, List.length_nil] at this
    omega
   have hn : (10 : UInt8) ∉ s.drop f := fun hm => by
    obtain ⟨j, hj, e⟩ := List.mem_iff_getElem.1 hm
    rw [List.length_drop] at hj
    refine h3 (f + j) (by omega) (by omega) ?_
    rw [List.getElem_drop] at e
    simp [List.getD, show f + j < s.length by omega, e]
   rw [recG_open hne hn] at h4
   rw [← h4]
   repeat' ((conv => whnf); first
   | refine Yz ?_
    | (refine Ret.mk ?_)
    | fail)
   rw [if_pos ⟨rfl, rfl⟩]
  ·obtain rfl : f = s.length := by omega
   rw [List.drop_length, pcs_nil, recG] at h4
   rw [← h4]
   repeat' ((conv => whnf); first
   | refine Yz ?_
    | (refine Ret.mk ?_)
    | fail)
   rw [if_pos ⟨rfl, rfl⟩]
end
end Go.Proofs.YtcbddkeiohdocaaGreatDoor.Co
/-
 The laws' parameters, as data.
-/
namespace Go.Proofs.YtcbddkeiohdocaaGreatDoor.Co
open Go Go.Evl
set_option maxRecDepth 100000
def i64 (n : Int) : Prop := -9223372036854775808 ≤ n ∧ n ≤ 9223372036854775807
theorem wf_i64 {n : Int} (h : (Lit.int .i64 n).wf = true) : i64 n := by
 simp only [Lit.wf, Bool.and_eq_true, decide_eq_true_eq] at h
 exact h
section
variable {P : Program} {n : Nat} {t : Nat} {ds : List D} {x : D}
theorem fit_i {k : IntKind} (ht : P.underlying t = some (.int k)) (h : fit P (n + 1) t ds) : ∃ i, ds = [.int k i] ∧ (Lit.int k i).wf = true := by
 simp only [fit, ht] at h; exact h
theorem fit_s (ht : P.underlying t = some .string) (h : fit P (n + 1) t ds) : ∃ s, ds = [.str s] ∧ s.length ≤ maxLen := by
 simp only [fit, ht] at h; exact h
theorem fit_l {e : Nat} (ht : P.underlying t = some (.slice e)) (h : fit P (n + 1) t ds) : ∃ m cs, ds = [.list m cs] ∧ m ≤ maxLen ∧ fitAll (fit P n) (List.replicate m e) cs := by
 simp only [fit, ht] at h; exact h
theorem fit_st {fs : Array Field} (ht : P.underlying t = some (.struct fs)) (h : fit P (n + 1) t ds) : fitAll (fit P n) (fs.toList.map (·.type)) ds := by
 simp only [fit, ht] at h; exact h
theorem arg_s (ht : P.underlying t = some .string) (h : fitArg P t x) : ∃ s, x = .str s ∧ s.length ≤ maxLen := by
 simp only [fitArg, ht] at h
 obtain ⟨i, e, hw⟩ := fit_s (n := 7) ht h
 exact ⟨i, by simpa using e, hw⟩
theorem arg_st {fs : Array Field} (ht : P.underlying t = some (.struct fs)) (h : fitArg P t x) : ∃ ds, x = .agg ds ∧ fitAll (fit P 7) (fs.toList.map (·.type)) ds := by
 simp only [fitArg, ht] at h
 obtain ⟨ds, rfl, h⟩ := h
 exact ⟨ds, rfl, fit_st ht h⟩
end
theorem fit_int {k : Nat} {ds : List D} (h : fit Tryz.prog (k + 1) 3 ds) : ∃ n, ds = [DI n] ∧ i64 n := by
 obtain ⟨n, rfl, hw⟩ := fit_i Tryz.underlying3 h
 exact ⟨n, rfl, wf_i64 hw⟩
theorem fit_ints {k : Nat} : ∀ (m : Nat) {ds : List D}, fitAll (fit Tryz.prog (k + 1)) (List.replicate m 3) ds → ∃ l : List Int, ds = l.map DI ∧ l.length = m ∧ ∀ n ∈ l, i64 n
 | 0, ds, h => ⟨[], h, rfl, by simp⟩
 | m + 1, ds, h => by
  obtain ⟨a, b, rfl, h1, h2⟩ := h
  obtain ⟨n, rfl, hn⟩ := fit_int h1
  obtain ⟨l, rfl, h3, h4⟩ := fit_ints m h2
  exact ⟨n :: l, rfl, by simp [h3], by simpa using ⟨hn, h4⟩⟩
theorem args2 {P : Program} {t u : Nat} {xs : List D} (h : fitArgs P [t, u] xs) : ∃ x y, xs = [x, y] ∧ fitArg P t x ∧ fitArg P u y := by
 obtain ⟨x, _, rfl, h1, y, _, rfl, h2, rfl⟩ := h
 exact ⟨x, y, rfl, h1, h2⟩
end Go.Proofs.YtcbddkeiohdocaaGreatDoor.Co
/-
 Events as a law's parameters.
-/
namespace Go.Proofs.YtcbddkeiohdocaaGreatDoor.Co
open Go Go.Evl
set_option maxRecDepth 100000
structure BigE (e : Evt) : Prop where
 ns : e.ns.length ≤ 9223372036854775807
 vs : e.vs.length ≤ 9223372036854775807
 nu : i64 e.nu
 ki : e.ki.length ≤ 9223372036854775807
 tx : e.tx.length ≤ 9223372036854775807
 na : ∀ x ∈ e.ns, x.length ≤ 9223372036854775807
theorem fit_strs {k : Nat} : ∀ (m : Nat) {ds : List D}, fitAll (fit Tryz.prog (k + 1)) (List.replicate m 9) ds → ∃ l : List (List UInt8), ds = l.map D.str ∧ l.length = m ∧ ∀ x ∈ l, x.length ≤ 9223372036854775807
 | 0, ds, h => ⟨[], h, rfl, fun _ h => by cases h⟩
 | m + 1, ds, h => by
  obtain ⟨a, b, rfl, h1, h2⟩ := h
  obtain ⟨s, rfl, hs⟩ := fit_s Tryz.underlying9 h1
  obtain ⟨l, rfl, h3, h4⟩ := fit_strs m h2
  refine ⟨s :: l, rfl, by simp [h3], fun x hx => ?_⟩
  rcases List.mem_cons.1 hx with rfl | hx
  ·exact Nat.le_trans hs (by decide)
  ·exact h4 x hx
theorem fit_Event_all {k : Nat} {ds : List D} (h : fitAll (fit Tryz.prog (k + 2)) [3, 9, 30, 49, 9] ds) : ∃ e : Evt, ds = e.cells ∧ BigE e := by
 obtain ⟨_, _, rfl, h1, _, _, rfl, h2, _, _, rfl, h3, _, _, rfl, h4, _, _, rfl, h5, rfl⟩ := h
 obtain ⟨n, rfl, hn⟩ := fit_int h1
 obtain ⟨s1, rfl, a1⟩ := fit_s Tryz.underlying9 h2
 obtain ⟨m, cs, rfl, a2, h6⟩ := fit_l Tryz.underlying30 h3
 obtain ⟨q, es, rfl, a3, h7⟩ := fit_l Tryz.underlying49 h4
 obtain ⟨s2, rfl, a4⟩ := fit_s Tryz.underlying9 h5
 obtain ⟨l, rfl, rfl, b1⟩ := fit_strs m h6
 obtain ⟨v, rfl, rfl, b2⟩ := fit_ints q h7
 exact ⟨⟨n, s1, l, v, s2⟩, rfl, Nat.le_trans a2 (by decide), Nat.le_trans a3 (by decide), hn, Nat.le_trans a1 (by decide), Nat.le_trans a4 (by decide), b1⟩
theorem arg_Event {x : D} (h : fitArg Tryz.prog 75 x) : ∃ e : Evt, x = .agg e.cells ∧ BigE e := by
 obtain ⟨ds, rfl, h'⟩ := arg_st Tryz.underlying75 h
 obtain ⟨e, rfl, he⟩ := fit_Event_all h'
 exact ⟨e, rfl, he⟩
end Go.Proofs.YtcbddkeiohdocaaGreatDoor.Co
/-
 The fixed example of chapter 10's laws comes out.
-/
namespace Go.Proofs.YtcbddkeiohdocaaGreatDoor.Co
open Go Go.Evl
section
variable {E : Oracle} (g : Good E)
include g
set_option maxRecDepth 100000
set_option maxHeartbeats 4000000 in
theorem s_awake : Fc E n_law10_awake [] (B true) := by
 refine g.fn rfl rfl ?_
 repeat' ((conv => whnf); first
 | refine Yz ?_
  | (apply CallI.of; first | exact ao1 g | exact ao2 g | exact ao3 g | exact ao4 g | exact ao5 g | exact ao6 g | exact ao7 g | exact ao8 g | exact ao9 g | exact ao10 g | exact ao11 g | exact ao12 g | exact ao13 g | exact ao14 g | exact ao15 g | exact ao16 g | exact ao17 g | exact ao18 g | exact ao19 g | exact ao20 g | exact ao21 g | exact ao22 g | exact ao23 g | exact ao24 g | exact ao25 g | exact ao27 g | exact ao28 g)
  | (refine is0 g ?_)
  | (first | refine is1 g ?_ | refine is2 g ?_ | refine is3 g ?_ | refine is4 g ?_ | refine is5 g ?_ | refine is6 g ?_ | refine is7 g ?_ | refine is8 g ?_ | refine is9 g ?_ | refine is10 g ?_ | refine is11 g ?_)
  | (refine Need.mk (by simp only [maxStr, List.length_cons, List.length_nil]; omega) ?_)
  | (refine LoopW.step g.lim ?_)
  | (exact Ret.mk rfl))
end
end Go.Proofs.YtcbddkeiohdocaaGreatDoor.Co
/-
 OfficeLogs returns true, for every event and every text.
-/
namespace Go.Proofs.YtcbddkeiohdocaaGreatDoor.Co
open Go Go.Evl
set_option maxRecDepth 100000
section
variable {E : Oracle} (g : Good E)
include g
theorem w_first (a b c : Int) : Fc E n_law10_first [.d (.list 3 [DI a, DI b, DI c])] (I (firstI [a, b, c])) := by
 refine g.fn rfl rfl ?_
 unfold firstI firstI firstI firstI
 by_cases h1 : a = 0
 ·rw [if_pos h1]
  by_cases h2 : b = 0
  ·rw [if_pos h2]
   by_cases h3 : c = 0
   ·rw [if_pos h3]
    repeat' ((conv => whnf); first
    | refine Yz ?_
     | (refine LoopW.step g.lim ?_)
     | (refine Pick.now rfl ?_)
     | (refine Ret.mk rfl))
   ·rw [if_neg h3]
    repeat' ((conv => whnf); first
    | refine Yz ?_
     | (refine LoopW.step g.lim ?_)
     | (refine Pick.now rfl ?_)
     | (refine Ret.mk rfl))
  ·rw [if_neg h2]
   repeat' ((conv => whnf); first
   | refine Yz ?_
    | (refine LoopW.step g.lim ?_)
    | (refine Pick.now rfl ?_)
    | (refine Ret.mk rfl))
 ·rw [if_neg h1]
  repeat' ((conv => whnf); first
  | refine Yz ?_
   | (refine LoopW.step g.lim ?_)
   | (refine Pick.now rfl ?_)
   | (refine Ret.mk rfl))
theorem w_when (b : Bool) (e : Int) : Fc E n_law10_when [B b, I e] (I (if b then e else 0)) := by
 refine g.fn rfl rfl ?_
 cases b
 all_goals repeat' ((conv => whnf); first
 | refine Yz ?_
  | (refine Ret.mk rfl))
set_option maxHeartbeats 16000000 in
theorem w_OfficeLogs (e : Evt) (s : List UInt8) (hb : BigE e) (hs : s.length ≤ 9223372036854775807) : Fc E n_law10_OfficeLogs [Evv e, S s] (B true) := by
 have aw := s_awake g
 have hsh := r_ShortEvents g [e] 1 (by decide) (by simp) (fun x hx => by
  rw [List.mem_singleton] at hx
  subst hx
  exact ⟨hb.ns, hb.vs, hb.ki, hb.tx, hb.na⟩)
 rw [show decide ((([e] : List Evt).length : Int) ≤ 1) = true from rfl, Bool.true_and, show [e].all shortB = (shortB e && true) from rfl, Bool.and_true] at hsh
 cases hse : shortB e with
 | false =>
  rw [hse] at hsh
  obtain ⟨nu, ki, ns, vs, tx⟩ := e
  change Fc E n_law10_OfficeLogs [.d (.agg [DI nu, .str ki, .list ns.length (ns.map D.str), .list vs.length (vs.map DI), .str tx]), S s] _
  refine g.fn rfl rfl ?_
  repeat' ((conv => whnf); first
  | refine Yz ?_
   | (apply CallI.of; assumption)
   | (refine Ret.mk rfl)
   | fail)
 | true =>
  rw [hse] at hsh
  by_cases hl : 1500 < s.length
  ·obtain ⟨nu, ki, ns, vs, tx⟩ := e
   change Fc E n_law10_OfficeLogs [.d (.agg [DI nu, .str ki, .list ns.length (ns.map D.str), .list vs.length (vs.map DI), .str tx]), S s] _
   refine g.fn rfl rfl ?_
   repeat' ((conv => whnf); first
   | refine Yz ?_
    | (apply CallI.of; assumption)
    | (refine Ret.mk rfl)
    | fail)
  ·have hS := short_of hse
   have p1 := s_Append g s e (by omega) hS
   have p2 := s_Recover g s
   have q1 := r_Recover g s
   have q2 := r_CheckEvent g e (by have := hS.ns; omega) (by have := hS.vs; omega)
   obtain ⟨b1, b2, b3⟩ := recM_back (s := s) (by omega)
   have q3 := r_SameE g (recM s).1 (by omega) (fun x hx => by have := (b1 x hx).1.ns; have := (b1 x hx).1.vs; omega)
   have hw1 := w_when g true 11
   have hw0 := w_when g false 11
   have hlog : (recM s).2.2 = 0 → chkE e = 0 → Fc E n_ref10_Log [LE ((recM s).1 ++ [e])] (S (s ++ (lineE e ++ [10]))) := fun h1 h2 => by
    obtain ⟨c1, c2⟩ := short_pr hS h2
    have e1 : logL ((recM s).1 ++ [e]) = s ++ (lineE e ++ [10]) := by rw [logL_app, logL_one, b3 h1]
    have := r_Log g ((recM s).1 ++ [e]) (by rw [List.length_append, List.length_singleton]; omega) (fun x hx => by
     rcases List.mem_append.1 hx with hx | hx
     ·exact (b1 x hx).1
     ·rw [List.mem_singleton] at hx; subst hx; exact c1) (by
     rw [e1, List.length_append, List.length_append, line_len, List.length_singleton]; omega)
    rw [e1] at this
    exact this
   unfold appO at p1
   have hf := w_first g
   have hzz : ∀ z, firstI [(recM s).2.2, chkE e, z] = 0 → (recM s).2.2 = 0 ∧ chkE e = 0 := fun z h => by
    rw [firstI_zero] at h
    exact ⟨h _ (by simp), h _ (by simp)⟩
   generalize recM s = R at *
   obtain ⟨l, i, x⟩ := R
   dsimp only at b1 b2 b3 q3 hlog p1 hzz
   change Fc E n_office_Recover [S s] (.tup [LE l, I (i : Nat), I x]) at p2
   change Fc E n_ref10_Recover [S s] (.tup [LE l, I (i : Nat), I x]) at q1
   have hll : (l ++ [e]).length = l.length + 1 := by simp
   have hlg : x = 0 → chkE e = 0 → ∀ {n : Nat} {cs : List D}, n = l.length + 1 → cs = l.flatMap Evt.cells ++ (e.cells ++ []) → Fc E n_ref10_Log [.d (.list n cs)] (S (s ++ (lineE e ++ [10]))) := by
    rintro h1 h2 _ _ rfl rfl
    have := hlog h1 h2
    unfold LE at this
    rw [hll, List.flatMap_append] at this
    exact this
   clear hlog
   generalize lineE e = le at *
   have hnu := hb.nu
   unfold i64 at hnu
   generalize hy : chkE e = y at *
   obtain ⟨nu, ki, ns, vs, tx⟩ := e
   dsimp only at hnu p1
   simp only [Evt.cells] at hlg
   change Fc E n_law10_OfficeLogs [.d (.agg [DI nu, .str ki, .list ns.length (ns.map D.str), .list vs.length (vs.map DI), .str tx]), S s] _
   have hml : (l.flatMap Evt.cells).length = l.length * 5 := flatR_length Evt.cells 5 evw l
   by_cases hn : nu = l.length + 1
   ·rw [if_pos hn] at p1
    have hf := hf x y 0
    have hzz := hzz 0
    by_cases hz : firstI [x, y, 0] = 0
    ·rw [if_pos hz] at p1
     obtain ⟨z1, z2⟩ := hzz hz
     have hlg := fun {n cs} => @hlg z1 z2 n cs
     rw [hz] at hf
     refine g.fn rfl rfl ?_
     repeat' ((conv => whnf); first
     | refine Yz ?_
      | (apply CallI.of; assumption)
      | (refine Cmp.ff (fun h => h hn) ?_)
      | (refine Cmp.tt hn ?_)
      | (refine Cmp.tt rfl ?_)
      | (refine CallI.of (hlg (by simp) (by simp)) ?_)
      | (refine Need.mk ⟨rfl, rfl, rfl, rfl, rfl, hml, by dsimp only; omega, by omega⟩ ?_)
      | (refine Need.mk ⟨rfl, rfl, by omega, rfl, rfl, rfl, by dsimp only; omega, by omega⟩ ?_)
      | (refine Chk.mk rfl ?_)
      | (refine Ret.mk rfl)
      | fail)
    ·rw [if_neg hz] at p1
     generalize firstI [x, y, 0] = z at *
     refine g.fn rfl rfl ?_
     repeat' ((conv => whnf); first
     | refine Yz ?_
      | (apply CallI.of; assumption)
      | (refine Cmp.ff (fun h => h hn) ?_)
      | (refine Cmp.tt hn ?_)
      | (refine Cmp.tt rfl ?_)
      | (refine Cmp.ff hz ?_)
      | (refine Ret.mk rfl)
      | fail)
   ·rw [if_neg hn] at p1
    have hf := hf x y 11
    have hz : firstI [x, y, 11] ≠ 0 := fun h => by
     rw [firstI_zero] at h
     exact absurd (h 11 (by simp)) (by decide)
    rw [if_neg hz] at p1
    generalize firstI [x, y, 11] = z at *
    refine g.fn rfl rfl ?_
    repeat' ((conv => whnf); first
    | refine Yz ?_
     | (apply CallI.of; assumption)
     | (refine Cmp.tt rfl ?_)
     | (refine Cmp.ff hz ?_)
     | (refine Ret.mk rfl)
     | fail)
end
theorem s_OfficeLogs {E : Oracle} (g : Good E) {xs : List D} (h : fitArgs Tryz.prog [75, 9] xs) : Fc E n_law10_OfficeLogs (asV xs) (B true) := by
 obtain ⟨x, y, rfl, h1, h2⟩ := args2 h
 obtain ⟨e, rfl, hp⟩ := arg_Event h1
 obtain ⟨s, rfl, hs⟩ := arg_s Tryz.underlying9 h2
 exact w_OfficeLogs g e s hp (Nat.le_trans hs (by decide))
end Go.Proofs.YtcbddkeiohdocaaGreatDoor.Co
