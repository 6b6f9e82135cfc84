
/-
  Texts of dates and of masks, read.
-/
import Derived.Test.YtddpjjaebkaggabGreatDoorSpDay
import Derived.Test.YtddpjjaebkaggabGreatDoorSpName
namespace Go.Proofs.YtddpjjaebkaggabGreatDoor.Co
open Go Go.Evl
theorem dg_fin : ∀ n : Fin 256, ([48, 49, 50, 51, 52, 53, 54, 55, 56, 57] : List UInt8).contains (UInt8.ofNat n.val) = decide (48 ≤ n.val ∧ n.val ≤ 57) := by decide +kernel
theorem dg_mem (b : UInt8) : ([48, 49, 50, 51, 52, 53, 54, 55, 56, 57] : List UInt8).contains b = decide (dg b) := by
  have h := dg_fin ⟨b.toNat, b.toNat_lt⟩
  rw [UInt8.ofNat_toNat] at h
  exact h.trans (decide_eq_decide.2 Iff.rfl)
theorem drop_all {p : UInt8 → Bool} : ∀ l : List UInt8, (∀ x ∈ l.dropWhile p, p x = true) → ∀ x ∈ l, p x = true
  | [], _ => by simp
  | a :: t, h => by
    by_cases ha : p a = true
    · rw [List.dropWhile_cons_of_pos ha] at h
      intro x hx
      rcases List.mem_cons.1 hx with rfl | hx
      · exact ha
      · exact drop_all t h x hx
    · rw [List.dropWhile_cons_of_neg ha] at h
      exact h
theorem drop_nil {p : UInt8 → Bool} : ∀ l : List UInt8, l.dropWhile p = [] ↔ ∀ x ∈ l, p x = true
  | [] => by simp
  | a :: t => by
    by_cases ha : p a = true
    · rw [List.dropWhile_cons_of_pos ha, drop_nil t]; simp [ha]
    · rw [List.dropWhile_cons_of_neg ha]; simp [ha]
theorem trim_nil (l : List UInt8) : Lib.trimS l [48, 49, 50, 51, 52, 53, 54, 55, 56, 57] = [] ↔ ∀ x ∈ l, dg x := by
  unfold Lib.trimS Lib.trimLeftS Lib.trimRightS
  rw [drop_nil]
  have e : ∀ x, (([48, 49, 50, 51, 52, 53, 54, 55, 56, 57] : List UInt8).contains x = true) ↔ dg x := fun x => by rw [dg_mem, decide_eq_true_eq]
  constructor
  · intro h x hx
    have := drop_all (p := fun b => ([48, 49, 50, 51, 52, 53, 54, 55, 56, 57] : List UInt8).contains b) l.reverse (fun y hy => h y (List.mem_reverse.2 hy)) x (List.mem_reverse.2 hx)
    exact (e x).1 this
  · intro h x hx
    have h1 := (List.dropWhile_sublist (fun b => ([48, 49, 50, 51, 52, 53, 54, 55, 56, 57] : List UInt8).contains b) (l := l.reverse)).subset (List.mem_reverse.1 hx)
    exact (e x).2 (h x (List.mem_reverse.1 h1))
theorem digitVal_dg {b : UInt8} (h : dg b) : Lib.digitVal b = some (b.toNat - 48) := if_pos h
theorem not_sign {b : UInt8} (h : dg b) : (b == 45) = false ∧ (b == 43) = false := by
  constructor
  · refine beq_eq_false_iff_ne.2 fun e => ?_
    subst e; exact absurd h.1 (by decide)
  · refine beq_eq_false_iff_ne.2 fun e => ?_
    subst e; exact absurd h.1 (by decide)
theorem atoi2 {a b : UInt8} (ha : dg a) (hb : dg b) : Lib.atoi [a, b] = some (10 * (10 * 0 + ((a.toNat : Int) - 48)) + ((b.toNat : Int) - 48)) := by
  have h1 := not_sign ha
  simp only [Lib.atoi, h1.1, h1.2, Lib.decNat, List.isEmpty_cons, Lib.decFrom, digitVal_dg ha, digitVal_dg hb]
  have := ha.1; have := hb.1
  simp
  omega
theorem atoi4 {a b c d : UInt8} (ha : dg a) (hb : dg b) (hc : dg c) (hd : dg d) : Lib.atoi [a, b, c, d] = some (10 * (10 * (10 * (10 * 0 + ((a.toNat : Int) - 48)) + ((b.toNat : Int) - 48)) + ((c.toNat : Int) - 48)) + ((d.toNat : Int) - 48)) := by
  have h1 := not_sign ha
  simp only [Lib.atoi, h1.1, h1.2, Lib.decNat, List.isEmpty_cons, Lib.decFrom, digitVal_dg ha, digitVal_dg hb, digitVal_dg hc, digitVal_dg hd]
  have := ha.1; have := hb.1; have := hc.1; have := hd.1
  simp
  omega
abbrev num2 (a b : UInt8) : Int := 10 * (10 * 0 + ((a.toNat : Int) - 48)) + ((b.toNat : Int) - 48)
abbrev num4 (a b c d : UInt8) : Int := 10 * (10 * (10 * (10 * 0 + ((a.toNat : Int) - 48)) + ((b.toNat : Int) - 48)) + ((c.toNat : Int) - 48)) + ((d.toNat : Int) - 48)
def formD : List UInt8 → Prop
  | [a0, a1, a2, a3, a4, a5, a6, a7, a8, a9] => (48 ≤ a0.toNat ∧ a0.toNat ≤ 57) ∧ (48 ≤ a1.toNat ∧ a1.toNat ≤ 57) ∧ (48 ≤ a2.toNat ∧ a2.toNat ≤ 57) ∧ (48 ≤ a3.toNat ∧ a3.toNat ≤ 57) ∧ a4.toNat = 45 ∧ (48 ≤ a5.toNat ∧ a5.toNat ≤ 57) ∧ (48 ≤ a6.toNat ∧ a6.toNat ≤ 57) ∧ a7.toNat = 45 ∧ (48 ≤ a8.toNat ∧ a8.toNat ≤ 57) ∧ (48 ≤ a9.toNat ∧ a9.toNat ≤ 57)
  | _ => False
def dateOf : List UInt8 → Int × Int × Int
  | [a0, a1, a2, a3, _, a5, a6, _, a8, a9] => (num4 a0 a1 a2 a3, num2 a5 a6, num2 a8 a9)
  | _ => (0, 0, 0)
structure ParsedD (s : List UInt8) (n e : Int) : Prop where
  bad : ¬ formD s → n = 0 ∧ e = 25
  good : formD s → e = chkDate (dateOf s).1 (dateOf s).2.1 (dateOf s).2.2 ∧ n = if e = 0 then dayN (dateOf s).1 (dateOf s).2.1 (dateOf s).2.2 else 0
theorem chkDate_ok {y m d : Int} (h : chkDate y m d = 0) : (2000 ≤ y ∧ y ≤ 3000) ∧ (1 ≤ m ∧ m ≤ 12) ∧ (0 ≤ d ∧ d ≤ 100) := by
  have k1 := @rng_zero y 2000 2273
  have k2 := @rng_zero m 1 12
  have k3 := @rng_zero d 1 31
  unfold chkDate at h
  split at h
  · cases h
  · omega
section
variable {E : Oracle} (g : Good E)
include g
theorem s_digits (t : List UInt8) (ht : t.length ≤ 1000000) : Fc E n_calendar_digits [S t] (B (decide (∀ x ∈ t, dg x))) := by
  refine g.fn code_calendar_digits rfl ?_
  have h := trim_nil t
  have ht' : Fc E n_strings_Trim [S t, S [48, 49, 50, 51, 52, 53, 54, 55, 56, 57]] (S (Lib.trimS t [48, 49, 50, 51, 52, 53, 54, 55, 56, 57])) :=
    Fc.extern g.lim (x := trimX) rfl (m' := []) (by simp only [trimX]; rw [if_pos ⟨ht, by simp, by decide⟩]) rfl
  by_cases hd : ∀ x ∈ t, dg x
  · rw [decide_eq_true hd]
    repeat' ((conv => whnf); first
    | refine Br.tt ?_
    | refine Br.ff ?_
    | refine Need.w ?_
    | refine Wr.w ?_
    | refine Cmp.t ?_
    | refine Cmp.f ?_
    | refine Rem.w ?_
    | refine Quo.w ?_
    | refine PickV.now rfl ?_
    | refine Pick.now rfl ?_
    | refine Chk.mk rfl ?_
    | refine PickW.w rfl ?_
      | (refine CallI.of ht' ?_)
      | (refine Cmp.tt (h.2 hd) ?_)
      | (refine Ret.mk rfl))
  · rw [decide_eq_false hd]
    repeat' ((conv => whnf); first
    | refine Br.tt ?_
    | refine Br.ff ?_
    | refine Need.w ?_
    | refine Wr.w ?_
    | refine Cmp.t ?_
    | refine Cmp.f ?_
    | refine Rem.w ?_
    | refine Quo.w ?_
    | refine PickV.now rfl ?_
    | refine Pick.now rfl ?_
    | refine Chk.mk rfl ?_
    | refine PickW.w rfl ?_
      | (refine CallI.of ht' ?_)
      | (refine Cmp.ff (fun e => hd (h.1 e)) ?_)
      | (refine Ret.mk rfl))
theorem CallS.ext {f : Nat} {args : List V} {cx : Cx} {slot : Nat} {m : Mem} {K : V → Mem → Prop} {v : V} {x : List V → Mem → Option (V × Mem)} {p : V × Mem} (hX : ext f = some x) (h : x args [] = some (v, [])) (hs : Evl.settle cx slot 0 m [] v = some p) (hk : K p.1 p.2) : CallS E f args cx slot m K :=
  ⟨v, [], p, by rw [g.lim.fix]; simp only [Go.Evl.step, hX, h]; rfl, hs, hk⟩
theorem s_Day (y m d : Int) : Fc E n_calendar_Day [I y, I m, I d] (.tup [I (if chkDate y m d = 0 then dayN y m d else 0), I (chkDate y m d)]) := by
  by_cases h : chkDate y m d = 0
  · have := s_Day_ok g y m d h
    rw [if_pos h, h]; exact this
  · have := s_Day_bad g y m d h
    rw [if_neg h]; exact this
set_option maxHeartbeats 4000000 in
theorem s_ParseDate (s : List UInt8) : ∃ n e : Int, Fc E n_calendar_ParseDate [S s] (.tup [I n, I e]) ∧ ParsedD s n e := by
  by_cases hl : s.length = 10
  · match s, hl with
    | [a0, a1, a2, a3, a4, a5, a6, a7, a8, a9], _ =>
      by_cases hf : formD [a0, a1, a2, a3, a4, a5, a6, a7, a8, a9]
      · have hd := s_Day g (num4 a0 a1 a2 a3) (num2 a5 a6) (num2 a8 a9)
        obtain ⟨f0, f1, f2, f3, f4, f5, f6, f7, f8, f9⟩ := id hf
        refine ⟨_, _, ?_, ⟨fun h => absurd hf h, fun _ => ⟨rfl, rfl⟩⟩⟩
        refine g.fn code_calendar_ParseDate rfl ?_
        have hdg : Fc E n_calendar_digits [S [a0, a1, a2, a3, a5, a6, a8, a9]] (B true) := by
          have := s_digits g [a0, a1, a2, a3, a5, a6, a8, a9] (by simp)
          rwa [decide_eq_true (by simp only [List.mem_cons, List.not_mem_nil, or_false, forall_eq_or_imp, forall_eq]; exact ⟨f0, f1, f2, f3, f5, f6, f8, f9⟩)] at this
        have hx1 : atoiX [S [a0, a1, a2, a3]] [] = some (.tup [I (num4 a0 a1 a2 a3), .d .nili], []) := by
          simp only [atoiX, atoi4 f0 f1 f2 f3]; rfl
        have hx2 : atoiX [S [a5, a6]] [] = some (.tup [I (num2 a5 a6), .d .nili], []) := by
          simp only [atoiX, atoi2 f5 f6]; rfl
        have hx3 : atoiX [S [a8, a9]] [] = some (.tup [I (num2 a8 a9), .d .nili], []) := by
          simp only [atoiX, atoi2 f8 f9]; rfl
        repeat' ((conv => whnf); first
        | refine Br.tt ?_
        | refine Br.ff ?_
        | refine Need.w ?_
        | refine Wr.w ?_
        | refine Cmp.t ?_
        | refine Cmp.f ?_
        | refine Rem.w ?_
        | refine Quo.w ?_
        | refine PickV.now rfl ?_
        | refine Pick.now rfl ?_
        | refine Chk.mk rfl ?_
        | refine PickW.w rfl ?_
          | (refine CallI.of hdg ?_)
          | (refine CallI.of hd ?_)
          | (refine PickB.mk ⟨_, rfl, ?_⟩)
          | (refine Need.mk (by simp [win, Evl.maxStr]; done) ?_)
          | (refine Bounds.mk (by simp; done) ?_)
          | (refine CallS.ext g rfl hx1 rfl ?_)
          | (refine CallS.ext g rfl hx2 rfl ?_)
          | (refine CallS.ext g rfl hx3 rfl ?_)
          | (refine Ret.mk rfl))
      · refine ⟨0, 25, ?_, ⟨fun _ => ⟨rfl, rfl⟩, fun h => absurd h hf⟩⟩
        refine g.fn code_calendar_ParseDate rfl ?_
        simp only [formD] at hf
        have hdg : ∀ t, t = [a0, a1, a2, a3, a5, a6, a8, a9] → (a4.toNat = 45 ∧ a7.toNat = 45) → Fc E n_calendar_digits [S t] (B false) := by
          rintro t rfl h
          have := s_digits g [a0, a1, a2, a3, a5, a6, a8, a9] (by simp)
          rwa [decide_eq_false (by simp only [List.mem_cons, List.not_mem_nil, or_false, forall_eq_or_imp, forall_eq, dg]; omega)] at this
        repeat' ((conv => whnf); first
        | refine Br.tt ?_
        | refine Br.ff ?_
        | refine Need.w ?_
        | refine Wr.w ?_
        | refine Cmp.t ?_
        | refine Cmp.f ?_
        | refine Rem.w ?_
        | refine Quo.w ?_
        | refine PickV.now rfl ?_
        | refine Pick.now rfl ?_
        | refine Chk.mk rfl ?_
        | refine PickW.w rfl ?_
          | (refine CallI.of (hdg _ rfl (by omega)) ?_)
          | (refine PickB.mk ⟨_, rfl, ?_⟩)
          | (refine Need.mk (by simp [win, Evl.maxStr]; done) ?_)
          | (refine Bounds.mk (by simp; done) ?_)
          | (refine Cmp.mk (fun h => ?_) (fun h => ?_))
          | (refine Rem.any (by omega) (fun r hr he => ?_))
          | (refine Br.mk (fun h => ?_) (fun h => ?_))
          | (refine Ret.mk rfl))
  · have hf : ¬ formD s := by
      unfold formD
      split
      · simp at hl
      · exact id
    refine ⟨0, 25, ?_, ⟨fun _ => ⟨rfl, rfl⟩, fun h => absurd h hf⟩⟩
    refine g.fn code_calendar_ParseDate rfl ?_
    repeat' ((conv => whnf); first
    | refine Br.tt ?_
    | refine Br.ff ?_
    | refine Need.w ?_
    | refine Wr.w ?_
    | refine Cmp.t ?_
    | refine Cmp.f ?_
    | refine Rem.w ?_
    | refine Quo.w ?_
    | refine PickV.now rfl ?_
    | refine Pick.now rfl ?_
    | refine Chk.mk rfl ?_
    | refine PickW.w rfl ?_
      | (refine Ret.mk rfl))
end
end Go.Proofs.YtddpjjaebkaggabGreatDoor.Co
