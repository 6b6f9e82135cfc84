/-
  PriorityOrders returns true, for every argument: the law, and the last part of what it leans on.
-/
import Derived.Laws.RangeAny
import Derived.Lib.SplitLaws
import Derived.Test.YtlnlcdnpgjhaaaaGreatDoorEvE
import Derived.Test.YtlnlcdnpgjhaaaaGreatDoorEvX
import Derived.Test.YtlnlcdnpgjhaaaaGreatDoorGood
import Derived.Test.YtlnlcdnpgjhaaaaGreatDoorRead
import Derived.Test.YtlnlcdnpgjhaaaaGreatDoorOda
/-
 Priority: which of two claims comes first; the plain law.
-/
namespace Go.Proofs.YtlnlcdnpgjhaaaaGreatDoor.Co
open Go Go.Evl
def dcF (f h : List UInt8 → Int) : List Kyt → Int × List UInt8
 | [] => (0, [])
 | k :: r => if f k.fa = h k.fa then dcF f h r else (if (decide (f k.fa < h k.fa) != k.dn) = true then -1 else 1, k.fa)
def dcC (c : Int → Option (List Kyt)) (i k : Int) (f h : List UInt8 → Int) : Int × List UInt8 :=
 if i < k then (-1, [99, 108, 97, 115, 115]) else if k < i then (1, [99, 108, 97, 115, 115]) else match c i with
  | some l => dcF f h l
  | none => (0, [])
def keyC (p : Prg) (i : Int) : Option (List Kyt) := (p.cl[i.toNat]?).map Cls.ky
def dcP (p : Prg) (a b : Clm) : Int × List UInt8 := dcC (keyC p) (clsG a 0 p.cl) (clsG b 0 p.cl) (factV a) (factV b)
theorem dcF_fst (f h : List UInt8 → Int) (k : Kyt) (r : List Kyt) : (dcF f h (k :: r)).1 = if f k.fa = h k.fa then (dcF f h r).1 else if f k.fa < h k.fa then (if k.dn = true then 1 else -1) else (if k.dn = true then -1 else 1) := by
 rw [dcF]
 generalize k.dn = d
 by_cases h1 : f k.fa = h k.fa
 ·rw [if_pos h1, if_pos h1]
 ·rw [if_neg h1, if_neg h1]
  by_cases h2 : f k.fa < h k.fa
  ·rw [decide_eq_true h2, if_pos h2]
   cases d <;> rfl
  ·rw [decide_eq_false h2, if_neg h2]
   cases d <;> rfl
theorem dcF_self (f : List UInt8 → Int) : ∀ l : List Kyt, dcF f f l = (0, [])
 | [] => rfl
 | k :: r => by rw [dcF, if_pos rfl, dcF_self f r]
theorem dcF_range (f h : List UInt8 → Int) : ∀ l : List Kyt, -1 ≤ (dcF f h l).1 ∧ (dcF f h l).1 ≤ 1
 | [] => by simp [dcF]
 | k :: r => by
  have := dcF_range f h r
  rw [dcF_fst]
  split
  ·exact this
  ·split <;> split <;> omega
theorem dcF_swap (f h : List UInt8 → Int) : ∀ l : List Kyt, (dcF f h l).1 = -(dcF h f l).1
 | [] => rfl
 | k :: r => by
  have := dcF_swap f h r
  rw [dcF_fst, dcF_fst]
  cases k.dn
  ·simp only [Bool.false_eq_true, if_false]
   split <;> split <;> (try split) <;> (try split) <;> omega
  ·simp only [if_true]
   split <;> split <;> (try split) <;> (try split) <;> omega
theorem dcF_trans (f h q : List UInt8 → Int) : ∀ l : List Kyt, (dcF f h l).1 ≤ 0 → (dcF h q l).1 ≤ 0 → (dcF f q l).1 ≤ 0
 | [] => fun _ _ => by simp [dcF]
 | k :: r => by
  have ih := dcF_trans f h q r
  rw [dcF_fst, dcF_fst, dcF_fst]
  generalize f k.fa = x
  generalize h k.fa = y
  generalize q k.fa = z
  generalize (dcF f h r).1 = u at *
  generalize (dcF h q r).1 = v at *
  generalize (dcF f q r).1 = w at *
  intro h1 h2
  generalize k.dn = d at *
  cases d
  ·simp only [Bool.false_eq_true, if_false] at *
   by_cases e1 : x = y
   ·by_cases e2 : y = z
    ·rw [if_pos e1] at h1
     rw [if_pos e2] at h2
     rw [if_pos (e1.trans e2)]
     exact ih h1 h2
    ·omega
   ·omega
  ·simp only [if_true] at *
   by_cases e1 : x = y
   ·by_cases e2 : y = z
    ·rw [if_pos e1] at h1
     rw [if_pos e2] at h2
     rw [if_pos (e1.trans e2)]
     exact ih h1 h2
    ·omega
   ·omega
theorem dcC_fst (c : Int → Option (List Kyt)) (i k : Int) (f h : List UInt8 → Int) : (dcC c i k f h).1 = if i < k then -1 else if k < i then 1 else (dcF f h ((c i).getD [])).1 := by
 unfold dcC
 split
 ·rfl
 ·split
  ·rfl
  ·cases c i <;> rfl
theorem dcC_self (c : Int → Option (List Kyt)) (i : Int) (f : List UInt8 → Int) : dcC c i i f f = (0, []) := by
 unfold dcC
 rw [if_neg (by omega), if_neg (by omega)]
 cases c i with
 | none => rfl
 | some l => exact dcF_self f l
theorem dcC_range (c : Int → Option (List Kyt)) (i k : Int) (f h : List UInt8 → Int) : -1 ≤ (dcC c i k f h).1 ∧ (dcC c i k f h).1 ≤ 1 := by
 have := dcF_range f h ((c i).getD [])
 rw [dcC_fst]
 split <;> (try split) <;> omega
theorem dcC_swap (c : Int → Option (List Kyt)) (i k : Int) (f h : List UInt8 → Int) : (dcC c i k f h).1 = -(dcC c k i h f).1 := by
 rw [dcC_fst, dcC_fst]
 rcases Int.lt_trichotomy i k with e | e | e
 ·rw [if_pos e, if_neg (by omega), if_pos e]
 ·subst e
  rw [if_neg (Int.lt_irrefl i), if_neg (Int.lt_irrefl i), if_neg (Int.lt_irrefl i), if_neg (Int.lt_irrefl i)]
  exact dcF_swap f h _
 ·rw [if_neg (by omega), if_pos e, if_pos e]
  rfl
theorem dcC_trans (c : Int → Option (List Kyt)) (i k j : Int) (f h q : List UInt8 → Int) (h1 : (dcC c i k f h).1 ≤ 0) (h2 : (dcC c k j h q).1 ≤ 0) : (dcC c i j f q).1 ≤ 0 := by
 rw [dcC_fst] at *
 rcases Int.lt_trichotomy i k with e1 | e1 | e1
 ·rcases Int.lt_trichotomy k j with e2 | e2 | e2
  ·rw [if_pos (by omega)]; decide
  ·rw [if_pos (by omega)]; decide
  ·rw [if_neg (by omega), if_pos e2] at h2
   exact absurd h2 (by decide)
 ·subst e1
  rcases Int.lt_trichotomy i j with e2 | e2 | e2
  ·rw [if_pos (by omega)]; decide
  ·subst e2
   rw [if_neg (by omega), if_neg (by omega)] at *
   exact dcF_trans f h q _ h1 h2
  ·rw [if_neg (by omega), if_pos e2] at h2
   exact absurd h2 (by decide)
 ·rw [if_neg (by omega), if_pos e1] at h1
  exact absurd h1 (by decide)
theorem dcC_same (c : Int → Option (List Kyt)) (i : Int) (f h : List UInt8 → Int) : dcC c i i f h = dcF f h ((c i).getD []) := by
 unfold dcC
 rw [if_neg (Int.lt_irrefl i), if_neg (Int.lt_irrefl i)]
 cases c i <;> rfl
theorem dcC_lt (c : Int → Option (List Kyt)) {i k : Int} (f h : List UInt8 → Int) (e : i < k) : dcC c i k f h = (-1, [99, 108, 97, 115, 115]) := if_pos e
theorem dcC_gt (c : Int → Option (List Kyt)) {i k : Int} (f h : List UInt8 → Int) (e : k < i) : dcC c i k f h = (1, [99, 108, 97, 115, 115]) := by
 unfold dcC
 rw [if_neg (by omega), if_pos e]
theorem keyC_in {p : Prg} {n : Nat} (h : n < p.cl.length) : (keyC p (n : Int)).getD [] = p.cl[n].ky := by
 unfold keyC
 rw [Int.toNat_natCast, List.getElem?_eq_getElem h]
 rfl
theorem keyC_out {p : Prg} {n : Nat} (h : p.cl.length ≤ n) : (keyC p (n : Int)).getD [] = [] := by
 unfold keyC
 rw [Int.toNat_natCast, List.getElem?_eq_none h]
 rfl
theorem dcP_self (p : Prg) (a : Clm) : dcP p a a = (0, []) := dcC_self _ _ _
theorem dcP_range (p : Prg) (a b : Clm) : -1 ≤ (dcP p a b).1 ∧ (dcP p a b).1 ≤ 1 := dcC_range _ _ _ _ _
theorem dcP_swap (p : Prg) (a b : Clm) : (dcP p a b).1 = -(dcP p b a).1 := dcC_swap _ _ _ _ _
theorem dcP_trans (p : Prg) (a b c : Clm) (h1 : (dcP p a b).1 ≤ 0) (h2 : (dcP p b c).1 ≤ 0) : (dcP p a c).1 ≤ 0 := dcC_trans _ _ _ _ _ _ _ h1 h2
end Go.Proofs.YtlnlcdnpgjhaaaaGreatDoor.Co
/-
 Priority: which of two claims comes first, by the program and by the reference.
-/
namespace Go.Proofs.YtlnlcdnpgjhaaaaGreatDoor.Co
open Go Go.Evl
set_option maxRecDepth 100000
theorem clsG_ge (c : Clm) : ∀ (i : Nat) (l : List Cls), (i : Int) ≤ clsG c i l ∧ clsG c i l ≤ i + l.length
 | i, [] => by simp [clsG]
 | i, x :: r => by
  have := clsG_ge c (i + 1) r
  rw [clsG, List.length_cons]
  split
  ·omega
  ·omega
def keyM (lv slot : Nat) (p : Prg) (i : Int) : Mem := [(⟨lv, slot, 0⟩, .cells ty_int [I i]), (⟨lv, slot, 1⟩, .cells ty_priority_Program [LC p.cl, I p.po, I p.of, I p.fo])]
def OkKy (p : Prg) : Prop := ∀ c ∈ p.cl, ∀ k ∈ c.ky, k.fa ∈ fcL
section
variable {E : Oracle} (g : Good E)
include g
theorem s_keys (p : Prg) (i : Int) : In E 0 n_priority_Program_keys [Pgv p, I i] [] fun v m' => v = .fn n_priority_Program_keys_1 [] [.ptr ⟨0, 3, 0⟩ 0 0, .ptr ⟨0, 2, 0⟩ 0 0] ∧ m' = [(⟨0, 2, 0⟩, .cells ty_priority_Program [LC p.cl, I p.po, I p.of, I p.fo]), (⟨0, 3, 0⟩, .cells ty_int [I i])] := by
 refine In.enter g.lim rfl code_priority_Program_keys ?_
 repeat' ((conv => whnf); first
 | refine Ya ?_ | refine Yb ?_ | refine Yc ?_ | refine Yd ?_ | refine Ye ?_ | refine Yf ?_ | refine Yg ?_ | refine Yh ?_ | refine Yi rfl ?_ | refine Yj rfl ?_ | refine Yk rfl ?_ | refine Yl rfl ?_
  | (exact ⟨rfl, rfl⟩))
theorem CallS.keys {p : Prg} {i : Int} {cx : Cx} {slot : Nat} {m : Mem} {K : V → Mem → Prop} (hf : Go.Evl.freeK cx.lv slot m = 0) (h : K (.fn n_priority_Program_keys_1 [] [.ptr ⟨cx.lv, slot, 0⟩ 0 0, .ptr ⟨cx.lv, slot, 1⟩ 0 0]) (m ++ keyM cx.lv slot p i)) : CallS E n_priority_Program_keys [Pgv p, I i] cx slot m K := by
 obtain ⟨v, m', h1, rfl, rfl⟩ := (s_keys g p i).got
 refine ⟨_, _, (.fn n_priority_Program_keys_1 [] [.ptr ⟨cx.lv, slot, 0⟩ 0 0, .ptr ⟨cx.lv, slot, 1⟩ 0 0], m ++ keyM cx.lv slot p i), h1, ?_, h⟩
 unfold Go.Evl.settle
 rw [hf]
 rfl
theorem fact_two (a b : Clm) (s : List UInt8) (h : s ∈ fcL) (ha : chkCl a = 0) (hb : chkCl b = 0) : ∃ n, findE (.str s) facM = some (some (.d (.agg [.str s, .fn n]))) ∧ Fc E n [Clv a] (I (factV a s)) ∧ Fc E n [Clv b] (I (factV b s)) := by
 obtain ⟨n, f1, c1⟩ := fact_find g a s h ha
 obtain ⟨k, f2, c2⟩ := fact_find g b s h hb
 have : n = k := by
  rw [f1] at f2
  simpa using f2
 subst this
 exact ⟨n, f1, c1, c2⟩
set_option maxHeartbeats 32000000 in
theorem s_decide (p : Prg) (a b : Clm) (hs : SmallP p) (ha : chkCl a = 0) (hb : chkCl b = 0) (hp : OkWh p) (hk : OkKy p) : Fc E n_priority_Program_decide [Pgv p, Clv a, Clv b] (.tup [I (dcP p a b).1, S (dcP p a b).2]) := by
 refine g.fn code_priority_Program_decide rfl ?_
 have h1 := s_classOf g p a hs ha hp
 have h2 := s_classOf g p b hs hb hp
 have b0 : Fc E n_priority_bit [B false] (I 0) := s_pbit g false
 have b1 : Fc E n_priority_bit [B true] (I 1) := s_pbit g true
 have r1 := clsG_ge a 0 p.cl
 have r2 := clsG_ge b 0 p.cl
 have l1 := hs.1
 unfold dcP
 generalize clsG a 0 p.cl = i at *
 generalize clsG b 0 p.cl = k at *
 rcases Int.lt_trichotomy i k with e | e | e
 ·rw [dcC_lt _ _ _ e]
  repeat' ((conv => whnf); first
  | refine Ya ?_ | refine Yb ?_ | refine Yc ?_ | refine Yd ?_ | refine Ye ?_ | refine Yf ?_ | refine Yg ?_ | refine Yh ?_ | refine Yi rfl ?_ | refine Yj rfl ?_ | refine Yk rfl ?_ | refine Yl rfl ?_
   | (apply CallI.of; assumption)
   | (refine Ret.mk rfl))
 ·subst e
  by_cases he : a = b
  ·subst he
   rw [dcC_self]
   repeat' ((conv => whnf); first
   | refine Ya ?_ | refine Yb ?_ | refine Yc ?_ | refine Yd ?_ | refine Ye ?_ | refine Yf ?_ | refine Yg ?_ | refine Yh ?_ | refine Yi rfl ?_ | refine Yj rfl ?_ | refine Yk rfl ?_ | refine Yl rfl ?_
    | (apply CallI.of; assumption)
    | (refine Cmp.tt (by simp) ?_)
    | (refine Ret.mk rfl))
  ·obtain ⟨n, rfl⟩ : ∃ n : Nat, i = n := ⟨i.toNat, by omega⟩
   rw [dcC_same]
   have two : ∀ s ∈ fcL, ∃ n, findE (.str s) facM = some (some (.d (.agg [.str s, .fn n]))) ∧ Fc E n [Clv a] (I (factV a s)) ∧ Fc E n [Clv b] (I (factV b s)) := fun s h => fact_two g a b s h ha hb
   generalize factV a = fa at *
   generalize factV b = fb at *
   by_cases hn : n < p.cl.length
   ·have l2 := (hs.2 _ (List.getElem_mem hn)).2
    have hkk := hk _ (List.getElem_mem hn)
    rw [keyC_in hn]
    generalize hR : dcF fa fb p.cl[n].ky = R
    repeat' ((conv => whnf); first
    | refine Ya ?_ | refine Yb ?_ | refine Yc ?_ | refine Yd ?_ | refine Ye ?_ | refine Yf ?_ | refine Yg ?_ | refine Yh ?_ | refine Yi rfl ?_ | refine Yj rfl ?_ | refine Yk rfl ?_ | refine Yl rfl ?_
     | (apply CallI.of; assumption)
     | (refine CallS.keys g rfl ?_)
     | (refine In.enter g.lim rfl code_priority_Program_keys_1 ?_)
     | (refine Cmp.mk (fun h => ?_) (fun h => ?_))
     | (refine Pick.rec Cls.cells_length n rfl hn rfl ?_))
    ·refine absurd ?_ he
     clear h1 h2 two hR he ha hb r1 r2
     obtain ⟨⟨n1, c1, k1, t1, p1, l1, f1, o1, d1, m1, s1, z1, i1⟩, h1, r1, w1, y1, x1⟩ := a
     obtain ⟨⟨n2, c2, k2, t2, p2, l2, f2, o2, d2, m2, s2, z2, i2⟩, h2, r2, w2, y2, x2⟩ := b
     simp_all
    all_goals
     refine LoopW.to (LoopW.upP g (fun k => [(0, .yld ⟨0, 67, 0⟩), (16, LK p.cl[n].ky), (17, I p.cl[n].ky.length), (18, I k)]) (fun _ => _) (fun k => dcF fa fb (p.cl[n].ky.drop k) = R) p.cl[n].ky.length (fun k hk h0 ih => ?_) 0 (Nat.zero_le _) hR) rfl rfl
     by_cases hlt : k < p.cl[n].ky.length
     ·rw [List.drop_eq_getElem_cons hlt, dcF] at h0
      have ih := ih hlt
      obtain ⟨m, m1, m2, m3⟩ := two _ (hkk _ (List.getElem_mem hlt))
      generalize hx : p.cl[n].ky[k] = x at *
      obtain ⟨f, dn⟩ := x
      dsimp only at h0 m1 m2 m3
      generalize fa f = u at *
      generalize fb f = v at *
      rcases Int.lt_trichotomy u v with e | e | e
      ·rw [if_neg (by omega), decide_eq_true e] at h0
       rw [← h0]
       cases dn
       all_goals repeat' ((conv => whnf); first
       | refine Ya ?_ | refine Yb ?_ | refine Yc ?_ | refine Yd ?_ | refine Ye ?_ | refine Yf ?_ | refine Yg ?_ | refine Yh ?_ | refine Yi rfl ?_ | refine Yj rfl ?_ | refine Yk rfl ?_ | refine Yl rfl ?_
        | (refine PickW.rec Kyt.cells_length k rfl hlt ?_; rw [hx])
        | (refine CallS.known g rfl ?_)
        | (refine Find.mk ⟨_, m1, ?_⟩)
        | (refine Rnd.enter g.lim ?_)
        | (apply CallI.of; assumption)
        | (refine Ret.mk rfl))
      ·rw [if_pos e] at h0
       have ih := ih h0
       repeat' ((conv => whnf); first
       | refine Ya ?_ | refine Yb ?_ | refine Yc ?_ | refine Yd ?_ | refine Ye ?_ | refine Yf ?_ | refine Yg ?_ | refine Yh ?_ | refine Yi rfl ?_ | refine Yj rfl ?_ | refine Yk rfl ?_ | refine Yl rfl ?_
        | (refine PickW.rec Kyt.cells_length k rfl hlt ?_; rw [hx])
        | (refine CallS.known g rfl ?_)
        | (refine Find.mk ⟨_, m1, ?_⟩)
        | (refine Rnd.enter g.lim ?_)
        | (apply CallI.of; assumption)
        | (refine LoopW.to ih rfl rfl))
      ·rw [if_neg (by omega), decide_eq_false (by omega)] at h0
       rw [← h0]
       cases dn
       all_goals repeat' ((conv => whnf); first
       | refine Ya ?_ | refine Yb ?_ | refine Yc ?_ | refine Yd ?_ | refine Ye ?_ | refine Yf ?_ | refine Yg ?_ | refine Yh ?_ | refine Yi rfl ?_ | refine Yj rfl ?_ | refine Yk rfl ?_ | refine Yl rfl ?_
        | (refine PickW.rec Kyt.cells_length k rfl hlt ?_; rw [hx])
        | (refine CallS.known g rfl ?_)
        | (refine Find.mk ⟨_, m1, ?_⟩)
        | (refine Rnd.enter g.lim ?_)
        | (apply CallI.of; assumption)
        | (refine Ret.mk rfl))
     ·rw [List.drop_eq_nil_of_le (by omega), dcF] at h0
      rw [← h0]
      repeat' ((conv => whnf); first
      | refine Ya ?_ | refine Yb ?_ | refine Yc ?_ | refine Yd ?_ | refine Ye ?_ | refine Yf ?_ | refine Yg ?_ | refine Yh ?_ | refine Yi rfl ?_ | refine Yj rfl ?_ | refine Yk rfl ?_ | refine Yl rfl ?_
       | (refine Ret.mk rfl))
   ·have hn' : n = p.cl.length := by omega
    rw [keyC_out (by omega), dcF]
    repeat' ((conv => whnf); first
    | refine Ya ?_ | refine Yb ?_ | refine Yc ?_ | refine Yd ?_ | refine Ye ?_ | refine Yf ?_ | refine Yg ?_ | refine Yh ?_ | refine Yi rfl ?_ | refine Yj rfl ?_ | refine Yk rfl ?_ | refine Yl rfl ?_
     | (apply CallI.of; assumption)
     | (refine CallS.keys g rfl ?_)
     | (refine In.enter g.lim rfl code_priority_Program_keys_1 ?_)
     | (refine Cmp.mk (fun h => ?_) (fun h => ?_))
     | (refine Ret.mk rfl))
 ·rw [dcC_gt _ _ _ e]
  repeat' ((conv => whnf); first
  | refine Ya ?_ | refine Yb ?_ | refine Yc ?_ | refine Yd ?_ | refine Ye ?_ | refine Yf ?_ | refine Yg ?_ | refine Yh ?_ | refine Yi rfl ?_ | refine Yj rfl ?_ | refine Yk rfl ?_ | refine Yl rfl ?_
   | (apply CallI.of; assumption)
   | (refine Ret.mk rfl))
end
end Go.Proofs.YtlnlcdnpgjhaaaaGreatDoor.Co
/-
 Priority: Compare, by the program.
-/
namespace Go.Proofs.YtlnlcdnpgjhaaaaGreatDoor.Co
open Go Go.Evl
set_option maxRecDepth 100000
theorem OkPrg.okKy {p : Prg} (h : OkPrg p) : OkKy p := fun c hc k hk => (h.cs c hc).ks k hk
section
variable {E : Oracle} (g : Good E)
include g
set_option maxHeartbeats 8000000 in
theorem s_Compare (p : Prg) (a b : Clm) (h : chkPg p = 0) (ha : chkCl a = 0) (hb : chkCl b = 0) : Fc E n_priority_Compare [Pgv p, Clv a, Clv b] (.tup [I (dcP p a b).1, I 0]) := by
 have ok := chkPg_zero h
 have h1 := s_CheckProgram g p ok.small
 have h2 := s_CheckClaim g a
 have h3 := s_CheckClaim g b
 have h4 := s_decide g p a b ok.small ha hb ok.okWh ok.okKy
 rw [h] at h1
 rw [ha] at h2
 rw [hb] at h3
 refine g.fn code_priority_Compare rfl ?_
 repeat' ((conv => whnf); first
 | refine Ya ?_ | refine Yb ?_ | refine Yc ?_ | refine Yd ?_ | refine Ye ?_ | refine Yf ?_ | refine Yg ?_ | refine Yh ?_ | refine Yi rfl ?_ | refine Yj rfl ?_ | refine Yk rfl ?_ | refine Yl rfl ?_
  | (apply CallI.of; assumption)
  | (refine CallI.of (s_pfirst3 g _ _ _) ?_)
  | (refine Ret.mk rfl))
end
end Go.Proofs.YtlnlcdnpgjhaaaaGreatDoor.Co
/-
 Priority: the order of claims, in plain Lean.
-/
namespace Go.Proofs.YtlnlcdnpgjhaaaaGreatDoor.Co
open Go Go.Evl
set_option maxRecDepth 100000
def zClm : Clm := ⟨⟨[], [], [], [], [], [], 0, 0, 0, 0, 0, 0, 0⟩, false, false, false, false, 0⟩
def atC (l : List Clm) (i : Int) : Clm := (l[i.toNat]?).getD zClm
theorem atC_get {l : List Clm} {i : Int} (h : i.toNat < l.length) : atC l i = l[i.toNat] := by
 unfold atC
 rw [List.getElem?_eq_getElem h]
 rfl
theorem atC_mem {l : List Clm} {i : Int} (h : i ∈ idL l.length) : atC l i ∈ l := by
 have := idL_mem.1 h
 rw [atC_get (by omega)]
 exact List.getElem_mem _
def ltB (p : Prg) (l : List Clm) (w : List Int) (a b : Int) : Bool := decide ((dcP p (atC l a) (atC l b)).1 < 0) || (decide ((dcP p (atC l a) (atC l b)).1 = 0) && decide (w.getD a.toNat 0 < w.getD b.toNat 0))
theorem ltB_iff {p : Prg} {l : List Clm} {w : List Int} {a b : Int} : ltB p l w a b = true ↔ (dcP p (atC l a) (atC l b)).1 < 0 ∨ ((dcP p (atC l a) (atC l b)).1 = 0 ∧ w.getD a.toNat 0 < w.getD b.toNat 0) := by
 simp [ltB]
theorem countP_lt {α : Type} {p q : α → Bool} : ∀ {l : List α}, (∀ x ∈ l, p x = true → q x = true) → ∀ a ∈ l, q a = true → p a = false → l.countP p < l.countP q
 | [], _, a, h, _, _ => by cases h
 | x :: r, hs, a, ha, hq, hp => by
  have hle : r.countP p ≤ r.countP q := List.countP_mono_left fun y hy => hs y (List.mem_cons_of_mem _ hy)
  rw [List.countP_cons, List.countP_cons]
  rcases List.mem_cons.1 ha with rfl | ha
  ·rw [hq, hp]
   simp
   omega
  ·have ih := countP_lt (fun y hy => hs y (List.mem_cons_of_mem _ hy)) a ha hq hp
   have h0 := hs x (List.mem_cons_self ..)
   cases hx : p x
   ·simp; omega
   ·rw [h0 hx]; simp; omega
theorem place_lt {n : Nat} {lt : Int → Int → Bool} (t : Tot n lt) {a b : Int} (ha : a ∈ idL n) (hb : b ∈ idL n) (h : lt a b = true) : placeL n lt a < placeL n lt b :=
 countP_lt (fun x hx hxa => t.tr x a b hx ha hb hxa h) a ha h (t.irr a)
theorem place_inj {n : Nat} {lt : Int → Int → Bool} (t : Tot n lt) {a b : Int} (ha : a ∈ idL n) (hb : b ∈ idL n) (h : placeL n lt a = placeL n lt b) : a = b := by
 refine Classical.byContradiction fun hab => ?_
 cases hl : lt a b
 ·have := place_lt t hb ha (t.tot a b ha hb hab hl)
  omega
 ·have := place_lt t ha hb hl
  omega
theorem place_in {n : Nat} {lt : Int → Int → Bool} (t : Tot n lt) {a : Int} (ha : a ∈ idL n) : placeL n lt a < n := by
 have := countP_lt (p := fun y => lt y a) (q := fun _ => true) (l := idL n) (fun _ _ _ => rfl) a ha rfl (t.irr a)
 rw [List.countP_true, idL_length] at this
 exact this
theorem drawAll_ord (key : Int) (n : Nat) : Ord n (drawAll key n) := by
 rcases Nat.eq_zero_or_pos n with rfl | hp
 ·exact Ord.id 0
 ·exact Ord.draw _ _ _ (by omega) (Ord.id n)
theorem lotL_inj {key : Int} {l : List Clm} (hn : (nmsM l).Nodup) {a b : Int} (ha : a ∈ idL l.length) (hb : b ∈ idL l.length) (h : (lotL key l).getD a.toNat 0 = (lotL key l).getD b.toNat 0) : a = b := by
 have t := ltN_tot hn
 have h1 := idL_mem.1 ha
 have h2 := idL_mem.1 hb
 have e : ∀ x : Int, x ∈ idL l.length → (lotL key l).getD x.toNat 0 = (drawAll key l.length).getD (placeL l.length (ltN l) x) 0 := fun x hx => by
  have h3 := idL_mem.1 hx
  have h4 : x.toNat < l.length := by omega
  have h5 : ((x.toNat : Nat) : Int) = x := by omega
  simp [lotL, idL, List.getD, h4, h5]
 rw [e a ha, e b hb] at h
 exact place_inj t ha hb ((drawAll_ord key l.length).inj _ _ (place_in t ha) (place_in t hb) h)
theorem ltB_tot {p : Prg} {key : Int} {l : List Clm} (hn : (nmsM l).Nodup) : Tot l.length (ltB p l (lotL key l)) := by
 refine ⟨fun a => ?_, fun a b c _ _ _ h1 h2 => ?_, fun a b ha hb hab h => ?_⟩
 ·cases h : ltB p l (lotL key l) a a with
  | false => rfl
  | true =>
   rw [ltB_iff, dcP_self] at h
   simp at h
 ·rw [ltB_iff] at h1 h2 ⊢
  have t1 := dcP_trans p (atC l a) (atC l b) (atC l c)
  have t2 := dcP_trans p (atC l b) (atC l c) (atC l a)
  have t3 := dcP_trans p (atC l c) (atC l a) (atC l b)
  have s1 := dcP_swap p (atC l a) (atC l b)
  have s2 := dcP_swap p (atC l b) (atC l c)
  have s3 := dcP_swap p (atC l c) (atC l a)
  generalize (dcP p (atC l a) (atC l b)).1 = x1 at *
  generalize (dcP p (atC l b) (atC l c)).1 = x2 at *
  generalize (dcP p (atC l a) (atC l c)).1 = x3 at *
  generalize (dcP p (atC l b) (atC l a)).1 = y1 at *
  generalize (dcP p (atC l c) (atC l b)).1 = y2 at *
  generalize (dcP p (atC l c) (atC l a)).1 = y3 at *
  have := t1 (by omega) (by omega)
  by_cases h3 : x3 < 0
  ·exact .inl h3
  ·have e3 : x3 = 0 := by omega
   have := t2 (by omega) (by omega)
   have := t3 (by omega) (by omega)
   exact .inr ⟨e3, by omega⟩
 ·have hx : ¬ ((dcP p (atC l a) (atC l b)).1 < 0 ∨ ((dcP p (atC l a) (atC l b)).1 = 0 ∧ (lotL key l).getD a.toNat 0 < (lotL key l).getD b.toNat 0)) := fun hc => by
   rw [ltB_iff.2 hc] at h
   cases h
  rw [ltB_iff]
  have s1 := dcP_swap p (atC l a) (atC l b)
  have hl : (lotL key l).getD a.toNat 0 ≠ (lotL key l).getD b.toNat 0 := fun e => hab (lotL_inj hn ha hb e)
  omega
theorem ins_ex {n : Nat} {lt : Int → Int → Bool} (t : Tot n lt) {x : Int} (hx : x ∈ idL n) : ∀ s : List Int, s.Pairwise (fun a b => lt a b = true) → (∀ y ∈ s, y ∈ idL n) → x ∉ s → ∃ s' : List Int, s'.Perm (x :: s) ∧ s'.Pairwise (fun a b => lt a b = true)
 | [], _, _, _ => ⟨[x], .refl _, List.pairwise_singleton ..⟩
 | y :: r, hs, hm, hn => by
  have hp := List.pairwise_cons.1 hs
  have hy := hm y (List.mem_cons_self ..)
  cases h : lt x y
  ·have hyx := t.tot x y hx hy (fun e => hn (by simp [e])) h
   obtain ⟨s', h1, h2⟩ := ins_ex t hx r hp.2 (fun z hz => hm z (List.mem_cons_of_mem _ hz)) (fun hc => hn (List.mem_cons_of_mem _ hc))
   refine ⟨y :: s', (h1.cons y).trans (List.Perm.swap ..), List.pairwise_cons.2 ⟨fun z hz => ?_, h2⟩⟩
   rcases List.mem_cons.1 (h1.mem_iff.1 hz) with rfl | hz
   ·exact hyx
   ·exact hp.1 z hz
  ·refine ⟨x :: y :: r, .refl _, List.pairwise_cons.2 ⟨fun z hz => ?_, hs⟩⟩
   rcases List.mem_cons.1 hz with rfl | hz
   ·exact h
   ·exact t.tr x y z hx hy (hm z (List.mem_cons_of_mem _ hz)) h (hp.1 z hz)
theorem srt_ex' {n : Nat} {lt : Int → Int → Bool} (t : Tot n lt) : ∀ l : List Int, l.Nodup → (∀ y ∈ l, y ∈ idL n) → ∃ s : List Int, s.Perm l ∧ s.Pairwise (fun a b => lt a b = true)
 | [], _, _ => ⟨[], .refl _, List.Pairwise.nil⟩
 | x :: r, hn, hm => by
  have hc := List.nodup_cons.1 hn
  obtain ⟨s, h1, h2⟩ := srt_ex' t r hc.2 fun y hy => hm y (List.mem_cons_of_mem _ hy)
  obtain ⟨s', h3, h4⟩ := ins_ex t (hm x (List.mem_cons_self ..)) s h2 (fun y hy => hm y (List.mem_cons_of_mem _ (h1.mem_iff.1 hy))) (fun hx => hc.1 (h1.mem_iff.1 hx))
  exact ⟨s', h3.trans (h1.cons x), h4⟩
theorem idL_nodup (n : Nat) : (idL n).Nodup := by
 refine List.pairwise_iff_getElem.2 fun a b ha hb hab => ?_
 simp only [idL, List.getElem_map, List.getElem_range]
 omega
theorem srt_ex {n : Nat} {lt : Int → Int → Bool} (t : Tot n lt) : ∃ s, Srt n lt s := by
 obtain ⟨s, h1, h2⟩ := srt_ex' t (idL n) (idL_nodup n) fun _ h => h
 exact ⟨s, h1, h2⟩
theorem Srt.same {n : Nat} {lt : Int → Int → Bool} {s r : List Int} (t : Tot n lt) (hs : Srt n lt s) (hr : Srt n lt r) : r = s := by
 refine List.ext_getElem (by rw [hs.len, hr.len]) fun i h1 h2 => ?_
 have hu := hs.uniq t (hr.mem h1)
 rw [hr.place t h1, List.getElem?_eq_getElem h2] at hu
 exact (Option.some.inj hu).symm
def clA (p : Prg) (l : List Clm) (i : Int) : Int := clsG (atC l i) 0 p.cl
theorem ltB_cls {p : Prg} {l : List Clm} {w : List Int} {a b : Int} (h : ltB p l w a b = true) : clA p l a ≤ clA p l b := by
 rw [ltB_iff] at h
 unfold dcP at h
 rw [dcC_fst] at h
 unfold clA
 refine Classical.byContradiction fun hc => ?_
 rw [if_neg (by omega), if_pos (by omega)] at h
 omega
def poolA (p : Prg) (l : List Clm) (s : List Int) : Nat := s.findIdx fun i => decide (p.po ≤ clA p l i)
def rankL (p : Prg) (l : List Clm) (s : List Int) : List Int :=
 s.take (poolA p l s) ++ (shrL p.of p.fo ((s.drop (poolA p l s)).map fun i => (atC l i).ne)).map fun j => (s.drop (poolA p l s)).getD j.toNat 0
theorem poolA_le (p : Prg) (l : List Clm) (s : List Int) : poolA p l s ≤ s.length := List.findIdx_le_length
theorem rankL_length (p : Prg) (l : List Clm) (s : List Int) : (rankL p l s).length = s.length := by
 have := poolA_le p l s
 unfold rankL
 rw [List.length_append, List.length_take, List.length_map, shrL_length, List.length_map, List.length_drop]
 omega
theorem pool_before {p : Prg} {l : List Clm} {s : List Int} {i : Nat} (h : i < poolA p l s) : clA p l (s[i]'(Nat.lt_of_lt_of_le h (poolA_le p l s))) < p.po := by
 have := List.not_of_lt_findIdx h
 simpa using this
theorem pool_behind {p : Prg} {l : List Clm} {s w : List Int} (hs : s.Pairwise fun a b => ltB p l w a b = true) {i : Nat} (hi : i < s.length) (h : poolA p l s ≤ i) : p.po ≤ clA p l s[i] := by
 have hp : poolA p l s < s.length := by omega
 have h0 : p.po ≤ clA p l s[poolA p l s] := by
  have := List.findIdx_getElem (xs := s) (p := fun i => decide (p.po ≤ clA p l i)) (w := hp)
  exact of_decide_eq_true this
 rcases Nat.lt_or_ge (poolA p l s) i with hlt | hge
 ·have := ltB_cls (List.pairwise_iff_getElem.1 hs _ _ hp hi hlt)
  omega
 ·have e : i = poolA p l s := by omega
  subst e
  exact h0
def whyW (p : Prg) (l : List Clm) (w : List Int) (a b : Int) : List UInt8 :=
 if ltB p l w b a = true then [115, 104, 97, 114, 101] else if (dcP p (atC l a) (atC l b)).2 = [] then [108, 111, 116] else (dcP p (atC l a) (atC l b)).2
def whyI (p : Prg) (l : List Clm) (w R : List Int) (k : Nat) : List (List UInt8) := (List.range k).map fun j => whyW p l w (R.getD j 0) (R.getD (j + 1) 0)
theorem whyI_succ (p : Prg) (l : List Clm) (w R : List Int) (k : Nat) : whyI p l w R (k + 1) = whyI p l w R k ++ [whyW p l w (R.getD k 0) (R.getD (k + 1) 0)] := by
 simp [whyI, List.range_succ]
theorem whyI_length (p : Prg) (l : List Clm) (w R : List Int) (k : Nat) : (whyI p l w R k).length = k := by simp [whyI]
theorem rankL_in {p : Prg} {l : List Clm} {s : List Int} {x : Int} (h : x ∈ rankL p l s) : x ∈ s := by
 unfold rankL at h
 rcases List.mem_append.1 h with h | h
 ·exact List.mem_of_mem_take h
 ·obtain ⟨j, hj, rfl⟩ := List.mem_map.1 h
  have hp : (shrL p.of p.fo ((s.drop (poolA p l s)).map fun i => (atC l i).ne)).Perm _ := shrG_perm p.of p.fo _ _ _ _ (selG_length 0 _)
  have hlt : j.toNat < (s.drop (poolA p l s)).length := by
   rcases List.mem_append.1 (hp.mem_iff.1 hj) with h | h
   all_goals
    obtain ⟨i, h1, h2⟩ := selG_mem h
    have := (List.getElem?_eq_some_iff.1 h2).1
    rw [List.length_map] at this
    omega
  rw [List.getD, List.getElem?_eq_getElem hlt]
  exact List.mem_of_mem_drop (List.getElem_mem hlt)
theorem dcF_what {f h : List UInt8 → Int} : ∀ {l : List Kyt}, (∀ k ∈ l, k.fa ∈ fcL) → ((dcF f h l).2 = [] ↔ (dcF f h l).1 = 0)
 | [], _ => by simp [dcF]
 | k :: r, hk => by
  have ih := dcF_what (f := f) (h := h) (l := r) fun x hx => hk x (List.mem_cons_of_mem _ hx)
  rw [dcF]
  split
  ·exact ih
  ·have hne : k.fa ≠ [] := fun e => by
    have := hk k (List.mem_cons_self ..)
    rw [e] at this
    revert this
    decide
   constructor
   ·intro h; exact absurd h hne
   ·intro h
    dsimp only at h
    split at h <;> cases h
theorem dcP_what {p : Prg} (hk : OkKy p) (a b : Clm) : (dcP p a b).2 = [] ↔ (dcP p a b).1 = 0 := by
 unfold dcP
 rcases Int.lt_trichotomy (clsG a 0 p.cl) (clsG b 0 p.cl) with e | e | e
 ·rw [dcC_lt _ _ _ e]; simp
 ·rw [e, dcC_same]
  refine dcF_what fun k hkk => ?_
  unfold keyC at hkk
  cases hc : p.cl[(clsG b 0 p.cl).toNat]? with
  | none => rw [hc] at hkk; simp at hkk
  | some c =>
   rw [hc] at hkk
   exact hk c (List.mem_of_getElem? hc) k hkk
 ·rw [dcC_gt _ _ _ e]; simp
end Go.Proofs.YtlnlcdnpgjhaaaaGreatDoor.Co
/-
 Priority: the order of claims, by the program.
-/
namespace Go.Proofs.YtlnlcdnpgjhaaaaGreatDoor.Co
open Go Go.Evl
set_option maxRecDepth 100000
abbrev Rkv (p : Prg) (l : List Clm) (w : List Int) : V := .d (.agg [.list p.cl.length (p.cl.flatMap Cls.cells), DI p.po, DI p.of, DI p.fo, .list l.length (l.flatMap Clm.cells), .list w.length (w.map DI)])
def cmpL (p : Prg) (l : List Clm) (w : List Int) (a b : Int) : Int × List UInt8 := if (dcP p (atC l a) (atC l b)).1 = 0 then (cmpI (w.getD a.toNat 0) (w.getD b.toNat 0), [108, 111, 116]) else dcP p (atC l a) (atC l b)
theorem cmpI_lt (a b : Int) : cmpI a b < 0 ↔ a < b := by
 unfold cmpI
 split
 ·simp [*]
 ·split <;> simp [*]
theorem cmpI_gt (a b : Int) : 0 < cmpI a b ↔ b < a := by
 unfold cmpI
 split
 ·simp; omega
 ·split <;> simp [*]
theorem cmpL_lt (p : Prg) (l : List Clm) (w : List Int) (a b : Int) : (cmpL p l w a b).1 < 0 ↔ ltB p l w a b = true := by
 rw [ltB_iff]
 unfold cmpL
 split
 ·rename_i h
  rw [h]
  dsimp only
  rw [cmpI_lt]
  simp
 ·rename_i h
  simp [h]
theorem cmpL_gt (p : Prg) (l : List Clm) (w : List Int) (a b : Int) : 0 < (cmpL p l w a b).1 ↔ ltB p l w b a = true := by
 rw [ltB_iff]
 have hs := dcP_swap p (atC l a) (atC l b)
 unfold cmpL
 split
 ·rename_i h
  rw [h] at hs
  dsimp only
  rw [cmpI_gt]
  constructor
  ·intro hh; exact .inr ⟨by omega, hh⟩
  ·intro hh; rcases hh with hh | hh
   ·omega
   ·exact hh.2
 ·rename_i h
  constructor
  ·intro hh; exact .inl (by omega)
  ·intro hh; rcases hh with hh | hh
   ·omega
   ·omega
theorem cmpL_why {p : Prg} (hk : OkKy p) (l : List Clm) (w : List Int) (a b : Int) : whyW p l w a b = if 0 < (cmpL p l w a b).1 then [115, 104, 97, 114, 101] else (cmpL p l w a b).2 := by
 unfold whyW
 have hw := dcP_what hk (atC l a) (atC l b)
 by_cases h : 0 < (cmpL p l w a b).1
 ·rw [if_pos h, if_pos ((cmpL_gt ..).1 h)]
 ·rw [if_neg h, if_neg (fun hc => h ((cmpL_gt ..).2 hc))]
  unfold cmpL
  by_cases h0 : (dcP p (atC l a) (atC l b)).1 = 0
  ·rw [if_pos (hw.2 h0), if_pos h0]
  ·rw [if_neg (fun hc => h0 (hw.1 hc)), if_neg h0]
structure OkRk (p : Prg) (l : List Clm) (w : List Int) : Prop where
 sm : SmallP p
 wh : OkWh p
 ky : OkKy p
 cl : ∀ c ∈ l, chkCl c = 0
 n : l.length ≤ 12
 w : w.length = l.length
 of' : 1 ≤ p.of ∧ p.of ≤ 100
theorem idx_nat {n : Nat} {x : Int} (h : x ∈ idL n) : ∃ k : Nat, x = k ∧ k < n := by
 have := idL_mem.1 h
 exact ⟨x.toNat, by omega, by omega⟩
section
variable {E : Oracle} (g : Good E)
include g
set_option maxHeartbeats 8000000 in
theorem s_compare {p : Prg} {l : List Clm} {w : List Int} (ok : OkRk p l w) {a b : Int} (ha : a ∈ idL l.length) (hb : b ∈ idL l.length) : Fc E n_priority_ranking_compare [Rkv p l w, I a, I b] (.tup [I (cmpL p l w a b).1, S (cmpL p l w a b).2]) := by
 have d := s_decide g p (atC l a) (atC l b) ok.sm (ok.cl _ (atC_mem ha)) (ok.cl _ (atC_mem hb)) ok.wh ok.ky
 obtain ⟨i, rfl, hi⟩ := idx_nat ha
 obtain ⟨k, rfl, hk⟩ := idx_nat hb
 have hw := ok.w
 have ea : atC l (i : Int) = l[i] := atC_get (i := (i : Int)) (by omega)
 have eb : atC l (k : Int) = l[k] := atC_get (i := (k : Int)) (by omega)
 have hiw : i < w.length := by omega
 have hkw : k < w.length := by omega
 have c := s_CmpI g w[i] w[k]
 unfold cmpL
 rw [ea, eb] at d ⊢
 refine g.fn code_priority_ranking_compare rfl ?_
 by_cases h0 : (dcP p l[i] l[k]).1 = 0
 ·rw [if_pos h0]
  rw [h0] at d
  have e1 : w.getD ((i : Int)).toNat 0 = w[i] := by simp [List.getD, hiw]
  have e2 : w.getD ((k : Int)).toNat 0 = w[k] := by simp [List.getD, hkw]
  rw [e1, e2]
  repeat' ((conv => whnf); first
  | refine Ya ?_ | refine Yb ?_ | refine Yc ?_ | refine Yd ?_ | refine Ye ?_ | refine Yf ?_ | refine Yg ?_ | refine Yh ?_ | refine Yi rfl ?_ | refine Yj rfl ?_ | refine Yk rfl ?_ | refine Yl rfl ?_
   | (refine PickW.rec Clm.cells_length i rfl hi ?_)
   | (refine PickW.rec Clm.cells_length k rfl hk ?_)
   | (refine Pick.intI i rfl hiw ?_)
   | (refine Pick.intI k rfl hkw ?_)
   | (apply CallI.of; assumption)
   | (refine Ret.mk rfl))
 ·rw [if_neg h0]
  generalize dcP p l[i] l[k] = z at *
  repeat' ((conv => whnf); first
  | refine Ya ?_ | refine Yb ?_ | refine Yc ?_ | refine Yd ?_ | refine Ye ?_ | refine Yf ?_ | refine Yg ?_ | refine Yh ?_ | refine Yi rfl ?_ | refine Yj rfl ?_ | refine Yk rfl ?_ | refine Yl rfl ?_
   | (refine PickW.rec Clm.cells_length i rfl hi ?_)
   | (refine PickW.rec Clm.cells_length k rfl hk ?_)
   | (apply CallI.of; assumption)
   | (refine Cmp.ff h0 ?_)
   | (refine Ret.mk rfl))
abbrev ordM (p : Prg) (l : List Clm) (w : List Int) (s : List Int) : Mem := [(⟨0, 1, 0⟩, .cells ty_priority_ranking [LC p.cl, I p.po, I p.of, I p.fo, LM l, LI w]), (⟨0, 2, 0⟩, .row true ty_int 1 0 []), (⟨0, 14, 0⟩, .row true ty_int 1 l.length (s.map DI))]
theorem in_order1 {p : Prg} {l : List Clm} {w : List Int} (ok : OkRk p l w) (x y : Int) (s : List Int) {K : V → Mem → Prop} (hx : x ∈ idL l.length) (hy : y ∈ idL l.length) (hK : ∀ c : Int, (c < 0 ↔ ltB p l w x y = true) → K (I c) (ordM p l w s)) :
  In E 4 n_priority_ranking_order_1 [I x, I y, .ptr ⟨0, 1, 0⟩ 0 0] (ordM p l w s) K := by
 have hc := s_compare g ok hx hy
 have hk := hK _ (cmpL_lt p l w x y)
 generalize cmpL p l w x y = z at *
 refine In.enter g.lim rfl code_priority_ranking_order_1 ?_
 repeat' ((conv => whnf); first
 | refine Ya ?_ | refine Yb ?_ | refine Yc ?_ | refine Yd ?_ | refine Ye ?_ | refine Yf ?_ | refine Yg ?_ | refine Yh ?_ | refine Yi rfl ?_ | refine Yj rfl ?_ | refine Yk rfl ?_ | refine Yl rfl ?_
  | (apply CallI.of; assumption)
  | (exact hk))
theorem in_order2 {p : Prg} {l : List Clm} {w : List Int} (ok : OkRk p l w) (x : Int) (s : List Int) {K : V → Mem → Prop} (hx : x ∈ idL l.length) (hK : K (B (decide (p.po ≤ clA p l x))) (ordM p l w s)) :
  In E 2 n_priority_ranking_order_2 [I x, .ptr ⟨0, 1, 0⟩ 0 0] (ordM p l w s) K := by
 have hc := s_classOf g p (atC l x) ok.sm (ok.cl _ (atC_mem hx)) ok.wh
 obtain ⟨i, rfl, hi⟩ := idx_nat hx
 have ea : atC l (i : Int) = l[i] := atC_get (i := (i : Int)) (by omega)
 unfold clA at hK
 rw [ea] at hc hK
 have l1 := ok.n
 generalize clsG l[i] 0 p.cl = z at *
 refine In.enter g.lim rfl code_priority_ranking_order_2 ?_
 by_cases h : p.po ≤ z
 ·rw [decide_eq_true h] at hK
  repeat' ((conv => whnf); first
  | refine Ya ?_ | refine Yb ?_ | refine Yc ?_ | refine Yd ?_ | refine Ye ?_ | refine Yf ?_ | refine Yg ?_ | refine Yh ?_ | refine Yi rfl ?_ | refine Yj rfl ?_ | refine Yk rfl ?_ | refine Yl rfl ?_
   | (refine PickW.rec Clm.cells_length i rfl hi ?_)
   | (apply CallI.of; assumption)
   | (exact hK))
 ·rw [decide_eq_false h] at hK
  repeat' ((conv => whnf); first
  | refine Ya ?_ | refine Yb ?_ | refine Yc ?_ | refine Yd ?_ | refine Ye ?_ | refine Yf ?_ | refine Yg ?_ | refine Yh ?_ | refine Yi rfl ?_ | refine Yj rfl ?_ | refine Yk rfl ?_ | refine Yl rfl ?_
   | (refine PickW.rec Clm.cells_length i rfl hi ?_)
   | (apply CallI.of; assumption)
   | (exact hK))
theorem in_index {p : Prg} {l : List Clm} {w : List Int} (ok : OkRk p l w) (s : List Int) {K : V → Mem → Prop} (hs : s.length = l.length) (hm : ∀ x ∈ s, x ∈ idL l.length) (hK : K (I (if poolA p l s < s.length then (poolA p l s : Int) else -1)) (ordM p l w s)) :
  In E 1 n_slices_IndexFunc_Lint_int [.ref ⟨0, 14, 0⟩ 0 l.length l.length, .fn n_priority_ranking_order_2 [] [.ptr ⟨0, 1, 0⟩ 0 0]] (ordM p l w s) K := by
 have l1 := ok.n
 refine In.enter g.lim rfl code_slices_IndexFunc_Lint_int ?_
 repeat' ((conv => whnf); first
 | refine Ya ?_ | refine Yb ?_ | refine Yc ?_ | refine Yd ?_ | refine Ye ?_ | refine Yf ?_ | refine Yg ?_ | refine Yh ?_ | refine Yi rfl ?_ | refine Yj rfl ?_ | refine Yk rfl ?_ | refine Yl rfl ?_)
 refine LoopW.to (LoopW.upP g (fun k => [(0, .ref ⟨0, 14, 0⟩ 0 l.length l.length), (1, .fn n_priority_ranking_order_2 [] [.ptr ⟨0, 1, 0⟩ 0 0]), (7, I l.length), (8, I k)]) (fun _ => ordM p l w s) (fun k => k ≤ poolA p l s) l.length (fun k hk hp ih => ?_) 0 (Nat.zero_le _) (Nat.zero_le _)) rfl rfl
 by_cases hlt : k < l.length
 ·have hks : k < s.length := by omega
  have hx := hm _ (List.getElem_mem hks)
  have hin := fun {K} => in_order2 g ok s[k] s (K := K) hx
  by_cases h : p.po ≤ clA p l s[k]
  ·have he : poolA p l s = k := by
    refine Nat.le_antisymm ?_ hp
    refine Nat.le_of_not_lt fun hc => ?_
    have := pool_before hc
    omega
   rw [decide_eq_true h] at hin
   rw [he, if_pos hks] at hK
   repeat' ((conv => whnf); first
   | refine Ya ?_ | refine Yb ?_ | refine Yc ?_ | refine Yd ?_ | refine Ye ?_ | refine Yf ?_ | refine Yg ?_ | refine Yh ?_ | refine Yi rfl ?_ | refine Yj rfl ?_ | refine Yk rfl ?_ | refine Yl rfl ?_
    | (refine Pick.intI0 k rfl hks ?_)
    | (refine hin ?_)
    | (exact hK))
  ·have hp' : k + 1 ≤ poolA p l s := by
    refine Nat.lt_of_le_of_ne hp fun e => h ?_
    subst e
    have hw : poolA p l s < s.length := hks
    have := List.findIdx_getElem (xs := s) (p := fun i => decide (p.po ≤ clA p l i)) (w := hw)
    exact of_decide_eq_true this
   have ih := ih hlt hp'
   rw [decide_eq_false h] at hin
   repeat' ((conv => whnf); first
   | refine Ya ?_ | refine Yb ?_ | refine Yc ?_ | refine Yd ?_ | refine Ye ?_ | refine Yf ?_ | refine Yg ?_ | refine Yh ?_ | refine Yi rfl ?_ | refine Yj rfl ?_ | refine Yk rfl ?_ | refine Yl rfl ?_
    | (refine Pick.intI0 k rfl hks ?_)
    | (refine hin ?_)
    | (refine LoopW.to ih rfl rfl))
 ·have hle := poolA_le p l s
  rw [if_neg (by omega)] at hK
  repeat' ((conv => whnf); first
  | refine Ya ?_ | refine Yb ?_ | refine Yc ?_ | refine Yd ?_ | refine Ye ?_ | refine Yf ?_ | refine Yg ?_ | refine Yh ?_ | refine Yi rfl ?_ | refine Yj rfl ?_ | refine Yk rfl ?_ | refine Yl rfl ?_
   | (exact hK))
omit g in
theorem copy_id (n : Nat) : patch (List.replicate n [DI 0]).flatten (0 * 1) (((idL n).map DI).take (min (idL n).length n * 1)) = (idL n).map DI := by
 have h := idL_length n
 have hm : ((idL n).map DI).take (min (idL n).length n * 1) = (idL n).map DI := List.take_of_length_le (by simp [h])
 rw [hm]
 unfold patch
 simp [h]
omit g in
theorem pool_win (s : List Int) (a n : Nat) (h : s.length = n) : (if 0 + a = 0 ∧ n - a = n then s.map DI else win (s.map DI) ((0 + a) * 1) ((n - a) * 1)) = (s.drop a).map DI := by
 subst h
 split
 ·rename_i h
  rw [show a = 0 by omega]
  rfl
 ·unfold win
  rw [Nat.zero_add, Nat.mul_one, Nat.mul_one, ← List.map_drop, List.take_of_length_le (by simp)]
set_option maxHeartbeats 16000000 in
theorem s_order {p : Prg} {l : List Clm} {w s : List Int} (ok : OkRk p l w) (t : Tot l.length (ltB p l w)) (hs : Srt l.length (ltB p l w) s) : Fc E n_priority_ranking_order [Rkv p l w] (LI (rankL p l s)) := by
 refine g.fn code_priority_ranking_order rfl ?_
 have l1 := ok.n
 have hil := idL_length l.length
 have hi := s_indices g l.length (by omega)
 have hsort0 := fun {K} => in_sortR g (K := K) t ok.n n_priority_ranking_order_1 (.list p.cl.length (p.cl.flatMap Cls.cells)) (DI p.po) (DI p.of) (DI p.fo) (.list l.length (l.flatMap Clm.cells)) (.list w.length (w.map DI)) (fun x y r K hx hy hK => in_order1 g ok x y r hx hy hK)
 have hsort : ∀ {K : V → Mem → Prop} {xs : List D}, xs = (idL l.length).map DI → K (.tup []) (ordM p l w s) → In E 1 n_slices_SortFunc_Lint_int [.ref ⟨0, 14, 0⟩ 0 l.length l.length, .fn n_priority_ranking_order_1 [] [.ptr ⟨0, 1, 0⟩ 0 0]] [(⟨0, 1, 0⟩, .cells ty_priority_ranking [LC p.cl, I p.po, I p.of, I p.fo, LM l, LI w]), (⟨0, 2, 0⟩, .row true ty_int 1 0 []), (⟨0, 14, 0⟩, .row true ty_int 1 l.length xs)] K := fun h1 h2 => by
  subst h1
  refine hsort0 fun r hr => ?_
  rw [hs.same t hr]
  exact h2
 clear hsort0
 have hsl := hs.len
 have hix := fun {K} => in_index g ok s (K := K) hsl (fun x hx => hs.pm.mem_iff.1 hx)
 repeat' ((conv => whnf); first
 | refine Ya ?_ | refine Yb ?_ | refine Yc ?_ | refine Yd ?_ | refine Ye ?_ | refine Yf ?_ | refine Yg ?_ | refine Yh ?_ | refine Yi rfl ?_ | refine Yj rfl ?_ | refine Yk rfl ?_ | refine Yl rfl ?_
  | (apply CallI.of; assumption)
  | (refine Need.mk ⟨by omega, rfl, by omega, by omega⟩ ?_)
  | (refine hsort (copy_id _) ?_)
  | (refine hix ?_))
 by_cases ha : poolA p l s < s.length
 ·rw [if_pos ha]
  have hP : (s.drop (poolA p l s)).length = l.length - poolA p l s := by simp [hsl]
  have hpm : ∀ x ∈ s.drop (poolA p l s), x ∈ idL l.length := fun x hx => hs.pm.mem_iff.1 (List.mem_of_mem_drop hx)
  have hwin := pool_win s (poolA p l s) l.length hsl
  have hrk : rankL p l s = s.take (poolA p l s) ++ (shrL p.of p.fo ((s.drop (poolA p l s)).map fun i => (atC l i).ne)).map fun j => (s.drop (poolA p l s)).getD j.toNat 0 := rfl
  generalize rankL p l s = R at *
  generalize poolA p l s = a at *
  generalize hPs : s.drop a = P at *
  repeat' ((conv => whnf); first
  | refine Ya ?_ | refine Yb ?_ | refine Yc ?_ | refine Yd ?_ | refine Ye ?_ | refine Yf ?_ | refine Yg ?_ | refine Yh ?_ | refine Yi rfl ?_ | refine Yj rfl ?_ | refine Yk rfl ?_ | refine Yl rfl ?_
   | (refine Bounds.at a l.length rfl rfl ⟨by omega, by omega⟩ ?_)
   | (refine In.enter g.lim rfl code_slices_Clone_Lint_int ?_)
   | (refine Need.mk ⟨rfl, rfl, rfl, rfl, rfl, by rw [hwin]; simp [hP], by show (0 + (l.length - a)) * 8 ≤ _; omega, by omega⟩ ?_))
  refine LoopW.to (LoopW.up g (fun k => [(1, .ptr ⟨0, 1, 0⟩ 0 0), (3, .ref ⟨0, 14, 0⟩ 0 l.length l.length), (4, I a), (5, LI P), (6, .ref ⟨0, 6, 0⟩ 0 k k), (34, LI P), (35, I P.length), (36, I k)])
   (fun k => ordM p l w s ++ [(⟨0, 6, 0⟩, .row false ty_bool 1 k ((P.take k).map fun i => D.bool (atC l i).ne))]) P.length (fun k hk ih => ?_) 0 (Nat.zero_le _)) ?_ ?_
  ·by_cases hlt : k < P.length
   ·have ih := ih hlt
    have hx := hpm _ (List.getElem_mem hlt)
    rw [List.take_add_one, List.getElem?_eq_getElem hlt, List.map_append] at ih
    obtain ⟨i, hxi, hi⟩ := idx_nat hx
    have ea : atC l (i : Int) = l[i] := atC_get (i := (i : Int)) (by omega)
    have hlen : ((P.take k).map fun i => D.bool (atC l i).ne).length = k := by simp; omega
    simp only [Option.toList_some, List.map_cons, List.map_nil] at ih
    rw [hxi, ea] at ih
    repeat' ((conv => whnf); first
    | refine Ya ?_ | refine Yb ?_ | refine Yc ?_ | refine Yd ?_ | refine Ye ?_ | refine Yf ?_ | refine Yg ?_ | refine Yh ?_ | refine Yi rfl ?_ | refine Yj rfl ?_ | refine Yk rfl ?_ | refine Yl rfl ?_
     | (refine Pick.intI k rfl hlt ?_; rw [hxi])
     | (refine Pick.rec Clm.cells_length i rfl hi rfl ?_)
     | (refine Need.mk (by simp only [List.length_cons, List.length_nil]; omega) ?_)
     | (refine LoopW.to ih rfl rfl))
   ·obtain rfl : k = P.length := by omega
    rw [List.take_length]
    have hne : (P.map fun i => (atC l i).ne).length = P.length := List.length_map ..
    have hmap : (P.map fun i => D.bool (atC l i).ne) = (P.map fun i => (atC l i).ne).map D.bool := by rw [List.map_map]; rfl
    have hil : ∀ {n : Nat} {cs : List D}, n = P.length → cs = P.map (fun i => D.bool (atC l i).ne) → Fc E n_priority_interleaved [I p.of, I p.fo, .d (.list n cs)] (LI (shrL p.of p.fo (P.map fun i => (atC l i).ne))) := fun h1 h2 => by
     subst h1 h2
     have : Fc E n_priority_interleaved [I p.of, I p.fo, .d (.list (P.map fun i => (atC l i).ne).length ((P.map fun i => (atC l i).ne).map D.bool))] (LI (shrL p.of p.fo (P.map fun i => (atC l i).ne))) := s_interleaved g p.of p.fo (P.map fun i => (atC l i).ne) ok.of' (by omega)
     rw [hne, ← hmap] at this
     exact this
    have hord := shrL_ord p.of p.fo (P.map fun i => (atC l i).ne)
    rw [hne] at hord
    have hrl := hord.len
    generalize shrL p.of p.fo (P.map fun i => (atC l i).ne) = r at *
    repeat' ((conv => whnf); first
    | refine Ya ?_ | refine Yb ?_ | refine Yc ?_ | refine Yd ?_ | refine Ye ?_ | refine Yf ?_ | refine Yg ?_ | refine Yh ?_ | refine Yi rfl ?_ | refine Yj rfl ?_ | refine Yk rfl ?_ | refine Yl rfl ?_
     | (refine CallI.of (hil rfl (if_pos ⟨rfl, rfl⟩)) ?_))
    refine LoopW.to (LoopW.up g (fun k => [(3, .ref ⟨0, 14, 0⟩ 0 l.length l.length), (4, I a), (5, LI P), (57, LI r), (58, I r.length), (59, I k)])
     (fun k => ordM p l w (s.take a ++ (r.take k).map (fun j => P.getD j.toNat 0) ++ s.drop (a + k)) ++ [(⟨0, 6, 0⟩, .row false ty_bool 1 P.length (P.map fun i => D.bool (atC l i).ne))]) r.length (fun k hk ih => ?_) 0 (Nat.zero_le _)) rfl ?_
    ·by_cases hlt : k < r.length
     ·have ih := ih hlt
      have hjr := hord.rng k (by omega)
      have hrk : r.getD k 0 = r[k] := by simp [List.getD, hlt]
      rw [hrk] at hjr
      obtain ⟨j, hj, hjP⟩ : ∃ j : Nat, r[k] = j ∧ j < P.length := ⟨r[k].toNat, by omega, by omega⟩
      have hset : (s.take a ++ (r.take k).map (fun j => P.getD j.toNat 0) ++ s.drop (a + k)).set (a + k) P[j] = s.take a ++ (r.take (k + 1)).map (fun j => P.getD j.toNat 0) ++ s.drop (a + (k + 1)) := by
       have hak : a + k < s.length := by omega
       have hlen : (s.take a ++ (r.take k).map fun j => P.getD j.toNat 0).length = a + k := by simp; omega
       rw [List.drop_eq_getElem_cons hak, List.set_append_right _ _ (by omega), hlen, Nat.sub_self, List.set_cons_zero, List.take_add_one, List.getElem?_eq_getElem hlt, List.map_append, hj]
       simp [List.getD, hjP, Nat.add_assoc]
      have hTl : (s.take a ++ (r.take k).map (fun j => P.getD j.toNat 0) ++ s.drop (a + k)).length = l.length := by simp; omega
      rw [← hset] at ih
      generalize s.take a ++ (r.take k).map (fun j => P.getD j.toNat 0) ++ s.drop (a + k) = T at *
      have hp := patch_set T (a + k) P[j] (by omega)
      repeat' ((conv => whnf); first
      | refine Ya ?_ | refine Yb ?_ | refine Yc ?_ | refine Yd ?_ | refine Ye ?_ | refine Yf ?_ | refine Yg ?_ | refine Yh ?_ | refine Yi rfl ?_ | refine Yj rfl ?_ | refine Yk rfl ?_ | refine Yl rfl ?_
       | (refine Pick.intI k rfl hlt ?_; rw [hj])
       | (refine Pick.intI j rfl hjP ?_)
       | (refine Need.mk ⟨rfl, by simp; omega, rfl⟩ ?_)
       | (refine LoopW.to ih rfl ?_))
      have e : (0 + ((a : Int) + (k : Int)).toNat) * 1 = a + k := by omega
      rw [e, hp]
      rfl
     ·obtain rfl : k = r.length := by omega
      rw [List.take_length, List.drop_of_length_le (by omega), List.append_nil, ← hrk]
      have hRl : R.length = l.length := by
       rw [hrk]
       simp
       omega
      repeat' ((conv => whnf); first
      | refine Ya ?_ | refine Yb ?_ | refine Yc ?_ | refine Yd ?_ | refine Ye ?_ | refine Yf ?_ | refine Yg ?_ | refine Yh ?_ | refine Yi rfl ?_ | refine Yj rfl ?_ | refine Yk rfl ?_ | refine Yl rfl ?_
       | (refine Ret.mk ?_))
      rw [if_pos ⟨rfl, rfl⟩]
      show V.d (.list l.length _) = V.d (.list R.length _)
      rw [hRl]
    ·simp
  ·rw [if_pos ⟨rfl, rfl⟩, hwin, List.nil_append, ← hP, Nat.zero_add P.length]
   rfl
  ·rfl
 ·rw [if_neg ha]
  have he : rankL p l s = s := by
   have := poolA_le p l s
   unfold rankL
   rw [List.take_of_length_le (by omega), List.drop_of_length_le (by omega)]
   simp [shrL, shrG]
  rw [he]
  repeat' ((conv => whnf); first
  | refine Ya ?_ | refine Yb ?_ | refine Yc ?_ | refine Yd ?_ | refine Ye ?_ | refine Yf ?_ | refine Yg ?_ | refine Yh ?_ | refine Yi rfl ?_ | refine Yj rfl ?_ | refine Yk rfl ?_ | refine Yl rfl ?_
   | (refine Ret.mk ?_))
  rw [if_pos ⟨rfl, rfl⟩]
  show V.d (.list l.length _) = V.d (.list s.length _)
  rw [hsl]
end
end Go.Proofs.YtlnlcdnpgjhaaaaGreatDoor.Co
/-
 Priority: keys checked; equal lists; lists of integers as parameters.
-/
namespace Go.Proofs.YtlnlcdnpgjhaaaaGreatDoor.Co
open Go Go.Evl
set_option maxRecDepth 100000
section
variable {E : Oracle} (g : Good E)
include g
theorem s_EqualI (a b : List Int) (ha : a.length ≤ 140737488355328) : Fc E n_slices_Equal_Lint_int [LI a, LI b] (B (decide (a = b))) := by
 refine g.fn code_slices_Equal_Lint_int rfl ?_
 by_cases hl : a.length = b.length
 ·generalize hR : decide (a = b) = R
  repeat' ((conv => whnf); first
  | refine Ya ?_ | refine Yb ?_ | refine Yc ?_ | refine Yd ?_ | refine Ye ?_ | refine Yf ?_ | refine Yg ?_ | refine Yh ?_ | refine Yi rfl ?_ | refine Yj rfl ?_ | refine Yk rfl ?_ | refine Yl rfl ?_)
  refine LoopW.to (LoopW.upP g (fun k => [(0, LI a), (1, LI b), (12, I a.length), (13, I k)]) (fun _ => []) (fun k => a.take k = b.take k) a.length (fun k hk hp ih => ?_) 0 (Nat.zero_le _) (by simp)) rfl rfl
  by_cases hlt : k < a.length
  ·have hlb : k < b.length := by omega
   have hs : a.take (k + 1) = b.take (k + 1) ↔ a[k] = b[k] := by
    have e1 : a.take (k + 1) = b.take k ++ [a[k]] := by rw [List.take_add_one, hp, List.getElem?_eq_getElem hlt]; rfl
    have e2 : b.take (k + 1) = b.take k ++ [b[k]] := by rw [List.take_add_one, List.getElem?_eq_getElem hlb]; rfl
    rw [e1, e2]
    exact ⟨fun h => List.singleton_inj.1 (List.append_cancel_left h), fun h => by rw [h]⟩
   by_cases he : a[k] = b[k]
   ·have ih := ih hlt (hs.2 he)
    repeat' ((conv => whnf); first
    | refine Ya ?_ | refine Yb ?_ | refine Yc ?_ | refine Yd ?_ | refine Ye ?_ | refine Yf ?_ | refine Yg ?_ | refine Yh ?_ | refine Yi rfl ?_ | refine Yj rfl ?_ | refine Yk rfl ?_ | refine Yl rfl ?_
     | (refine Pick.intI k rfl hlt ?_)
     | (refine Pick.intI k rfl hlb ?_)
     | (refine LoopW.to ih rfl rfl))
   ·rw [← hR, decide_eq_false (fun e => he (by subst e; rfl))]
    repeat' ((conv => whnf); first
    | refine Ya ?_ | refine Yb ?_ | refine Yc ?_ | refine Yd ?_ | refine Ye ?_ | refine Yf ?_ | refine Yg ?_ | refine Yh ?_ | refine Yi rfl ?_ | refine Yj rfl ?_ | refine Yk rfl ?_ | refine Yl rfl ?_
     | (refine Pick.intI k rfl hlt ?_)
     | (refine Pick.intI k rfl hlb ?_)
     | (refine Ret.mk rfl))
  ·have hk' : k = a.length := by omega
   subst hk'
   rw [List.take_of_length_le (Nat.le_refl _), List.take_of_length_le (by omega)] at hp
   rw [← hR, decide_eq_true hp]
   repeat' ((conv => whnf); first
   | refine Ya ?_ | refine Yb ?_ | refine Yc ?_ | refine Yd ?_ | refine Ye ?_ | refine Yf ?_ | refine Yg ?_ | refine Yh ?_ | refine Yi rfl ?_ | refine Yj rfl ?_ | refine Yk rfl ?_ | refine Yl rfl ?_
    | (refine Ret.mk rfl))
 ·rw [decide_eq_false (fun e => hl (by rw [e]))]
  repeat' ((conv => whnf); first
  | refine Ya ?_ | refine Yb ?_ | refine Yc ?_ | refine Yd ?_ | refine Ye ?_ | refine Yf ?_ | refine Yg ?_ | refine Yh ?_ | refine Yi rfl ?_ | refine Yj rfl ?_ | refine Yk rfl ?_ | refine Yl rfl ?_
   | (refine Ret.mk rfl))
theorem s_checkKey (n : Int) : Fc E n_priority_checkKey [I n] (I (rng n 1 2147483646)) := by
 refine g.fn code_priority_checkKey rfl ?_
 have h := s_pwithin g n 1 2147483646
 repeat' ((conv => whnf); first
 | refine Ya ?_ | refine Yb ?_ | refine Yc ?_ | refine Yd ?_ | refine Ye ?_ | refine Yf ?_ | refine Yg ?_ | refine Yh ?_ | refine Yi rfl ?_ | refine Yj rfl ?_ | refine Yk rfl ?_ | refine Yl rfl ?_
  | (apply CallI.of; assumption)
  | (refine Ret.mk rfl))
end
end Go.Proofs.YtlnlcdnpgjhaaaaGreatDoor.Co
/-
 Priority: Rank, Why, CheckRank and Better, by the program.
-/
namespace Go.Proofs.YtlnlcdnpgjhaaaaGreatDoor.Co
open Go Go.Evl
set_option maxRecDepth 100000
def chkRk (p : Prg) (key : Int) (l : List Clm) : Int := firstI [chkPg p, rng key 1 2147483646, chkCms l]
theorem chkRk_zero {p : Prg} {key : Int} {l : List Clm} (h : chkRk p key l = 0) : chkPg p = 0 ∧ (1 ≤ key ∧ key ≤ 2147483646) ∧ chkCms l = 0 := by
 unfold chkRk at h
 rw [firstI_zero] at h
 exact ⟨h _ (by simp), rng_zero.1 (h _ (by simp)), h _ (by simp)⟩
theorem rk_ok {p : Prg} {key : Int} {l : List Clm} (h : chkRk p key l = 0) (hl : l.length ≤ 12) : OkRk p l (lotL key l) := by
 obtain ⟨h1, h2, h3⟩ := chkRk_zero h
 have ok := chkPg_zero h1
 exact ⟨ok.small, ok.okWh, ok.okKy, (chkCms_zero h3).2.1, hl, lotL_length key l, ok.of'⟩
theorem rk_tot {p : Prg} {key : Int} {l : List Clm} (h : chkRk p key l = 0) : Tot l.length (ltB p l (lotL key l)) := ltB_tot (chkCms_zero (chkRk_zero h).2.2).2.2
abbrev LS (l : List (List UInt8)) : V := .d (.list l.length (l.map D.str))
section
variable {E : Oracle} (g : Good E)
include g
theorem s_checkRanking (p : Prg) (key : Int) (l : List Clm) (hs : SmallP p) (hl : l.length ≤ 1000000) : Fc E n_priority_checkRanking [Pgv p, I key, LM l] (I (chkRk p key l)) := by
 have h1 := s_CheckProgram g p hs
 have h2 := s_checkKey g key
 have h3 := s_checkClaims g l hl
 have h4 := s_pfirst3 g (chkPg p) (rng key 1 2147483646) (chkCms l)
 refine g.fn code_priority_checkRanking rfl ?_
 unfold chkRk
 repeat' ((conv => whnf); first
 | refine Ya ?_ | refine Yb ?_ | refine Yc ?_ | refine Yd ?_ | refine Ye ?_ | refine Yf ?_ | refine Yg ?_ | refine Yh ?_ | refine Yi rfl ?_ | refine Yj rfl ?_ | refine Yk rfl ?_ | refine Yl rfl ?_
  | (apply CallI.of; assumption)
  | (refine Ret.mk rfl))
theorem s_ranked {p : Prg} {key : Int} {l : List Clm} (h : chkRk p key l = 0) (hl : l.length ≤ 12) : Fc E n_priority_ranked [Pgv p, I key, LM l] (Rkv p l (lotL key l)) := by
 obtain ⟨h1, h2, h3⟩ := chkRk_zero h
 have hk := s_lots g key l h2 hl (chkCms_zero h3).2.2
 refine g.fn code_priority_ranked rfl ?_
 repeat' ((conv => whnf); first
 | refine Ya ?_ | refine Yb ?_ | refine Yc ?_ | refine Yd ?_ | refine Ye ?_ | refine Yf ?_ | refine Yg ?_ | refine Yh ?_ | refine Yi rfl ?_ | refine Yj rfl ?_ | refine Yk rfl ?_ | refine Yl rfl ?_
  | (apply CallI.of; assumption)
  | (refine Ret.mk rfl))
theorem s_Rank {p : Prg} {key : Int} {l : List Clm} {s : List Int} (h : chkRk p key l = 0) (hl : l.length ≤ 12) (hs : Srt l.length (ltB p l (lotL key l)) s) : Fc E n_priority_Rank [Pgv p, I key, LM l] (.tup [LI (rankL p l s), I 0]) := by
 have ok := rk_ok h hl
 have h1 := s_checkRanking g p key l ok.sm (by omega)
 have h2 := s_ranked g h hl
 have h3 := s_order g ok (rk_tot h) hs
 rw [h] at h1
 refine g.fn code_priority_Rank rfl ?_
 repeat' ((conv => whnf); first
 | refine Ya ?_ | refine Yb ?_ | refine Yc ?_ | refine Yd ?_ | refine Ye ?_ | refine Yf ?_ | refine Yg ?_ | refine Yh ?_ | refine Yi rfl ?_ | refine Yj rfl ?_ | refine Yk rfl ?_ | refine Yl rfl ?_
  | (apply CallI.of; assumption)
  | (refine Ret.mk rfl))
set_option maxHeartbeats 8000000 in
theorem s_Why {p : Prg} {key : Int} {l : List Clm} {s : List Int} (h : chkRk p key l = 0) (hl : l.length ≤ 12) (hs : Srt l.length (ltB p l (lotL key l)) s) : Fc E n_priority_Why [Pgv p, I key, LM l] (.tup [LS (whyI p l (lotL key l) (rankL p l s) (l.length - 1)), I 0]) := by
 have ok := rk_ok h hl
 have h1 := s_checkRanking g p key l ok.sm (by omega)
 have h2 := s_ranked g h hl
 have h3 := s_order g ok (rk_tot h) hs
 have hcm := fun {a b : Int} ha hb => s_compare g ok (a := a) (b := b) ha hb
 have hwy := cmpL_why ok.ky l (lotL key l)
 have hRl : (rankL p l s).length = l.length := by rw [rankL_length, hs.len]
 have hRm : ∀ x ∈ rankL p l s, x ∈ idL l.length := fun x hx => hs.pm.mem_iff.1 (rankL_in hx)
 rw [h] at h1
 refine g.fn code_priority_Why rfl ?_
 generalize rankL p l s = R at *
 have hww := ok.w
 generalize lotL key l = w at *
 repeat' ((conv => whnf); first
 | refine Ya ?_ | refine Yb ?_ | refine Yc ?_ | refine Yd ?_ | refine Ye ?_ | refine Yf ?_ | refine Yg ?_ | refine Yh ?_ | refine Yi rfl ?_ | refine Yj rfl ?_ | refine Yk rfl ?_ | refine Yl rfl ?_
  | (apply CallI.of; assumption))
 refine LoopW.to (LoopW.up g (fun k => [(9, .ptr ⟨0, 9, 0⟩ 0 0), (10, LI R), (11, .ref ⟨0, 11, 0⟩ 0 k k), (12, I ((k : Int) + 1))])
  (fun k => [(⟨0, 3, 0⟩, .cells ty_priority_Program [LC p.cl, I p.po, I p.of, I p.fo]), (⟨0, 6, 0⟩, .row false ty_string 1 0 []), (⟨0, 9, 0⟩, .cells ty_priority_ranking [LC p.cl, I p.po, I p.of, I p.fo, LM l, LI w]), (⟨0, 11, 0⟩, .row false ty_string 1 k ((whyI p l w R k).map D.str))])
  (l.length - 1) (fun k hk ih => ?_) 0 (Nat.zero_le _)) rfl rfl
 have hwl := whyI_length p l w R k
 by_cases hlt : k < l.length - 1
 ·have ih := ih hlt
  have hk0 : k < R.length := by omega
  have hk1 : k + 1 < R.length := by omega
  have hc := hcm (hRm _ (List.getElem_mem hk0)) (hRm _ (List.getElem_mem hk1))
  have e0 : R.getD k 0 = R[k] := by simp [List.getD, hk0]
  have e1 : R.getD (k + 1) 0 = R[k + 1] := by simp [List.getD, hk1]
  rw [whyI_succ, e0, e1, hwy, List.map_append, List.map_cons, List.map_nil] at ih
  generalize cmpL p l w R[k] R[k + 1] = z at *
  generalize whyI p l w R k = W at *
  by_cases hz : 0 < z.1
  ·rw [if_pos hz] at ih
   repeat' ((conv => whnf); first
   | refine Ya ?_ | refine Yb ?_ | refine Yc ?_ | refine Yd ?_ | refine Ye ?_ | refine Yf ?_ | refine Yg ?_ | refine Yh ?_ | refine Yi rfl ?_ | refine Yj rfl ?_ | refine Yk rfl ?_ | refine Yl rfl ?_
    | (refine Pick.intI k (by omega) hk0 ?_)
    | (refine Pick.intI (k + 1) rfl hk1 ?_)
    | (apply CallI.of; assumption)
    | (refine Need.mk (by simp only [List.length_cons, List.length_nil, List.length_map]; omega) ?_)
    | (refine LoopW.to ih rfl rfl))
  ·rw [if_neg hz] at ih
   repeat' ((conv => whnf); first
   | refine Ya ?_ | refine Yb ?_ | refine Yc ?_ | refine Yd ?_ | refine Ye ?_ | refine Yf ?_ | refine Yg ?_ | refine Yh ?_ | refine Yi rfl ?_ | refine Yj rfl ?_ | refine Yk rfl ?_ | refine Yl rfl ?_
    | (refine Pick.intI k (by omega) hk0 ?_)
    | (refine Pick.intI (k + 1) rfl hk1 ?_)
    | (apply CallI.of; assumption)
    | (refine Need.mk (by simp only [List.length_cons, List.length_nil, List.length_map]; omega) ?_)
    | (refine LoopW.to ih rfl rfl))
 ·obtain rfl : k = l.length - 1 := by omega
  repeat' ((conv => whnf); first
  | refine Ya ?_ | refine Yb ?_ | refine Yc ?_ | refine Yd ?_ | refine Ye ?_ | refine Yf ?_ | refine Yg ?_ | refine Yh ?_ | refine Yi rfl ?_ | refine Yj rfl ?_ | refine Yk rfl ?_ | refine Yl rfl ?_
   | (refine Ret.mk ?_))
  rw [if_pos ⟨rfl, rfl⟩]
  show V.tup [V.d (.list (l.length - 1) _), I 0] = V.tup [V.d (.list (whyI p l w R (l.length - 1)).length _), I 0]
  rw [hwl]
theorem in_EqD (p : Prg) (a b : List Int) (ha : a.length ≤ 1000000) {K : V → Mem → Prop} (hK : K (B (decide (a = b))) [(⟨0, 4, 0⟩, .cells ty_priority_Program [LC p.cl, I p.po, I p.of, I p.fo])]) :
  In E 1 n_slices_Equal_Lint_int [LI a, LI b] [(⟨0, 4, 0⟩, .cells ty_priority_Program [LC p.cl, I p.po, I p.of, I p.fo])] K := by
 refine In.enter g.lim rfl code_slices_Equal_Lint_int ?_
 by_cases hl : a.length = b.length
 ·generalize hR : decide (a = b) = R at hK
  repeat' ((conv => whnf); first
  | refine Ya ?_ | refine Yb ?_ | refine Yc ?_ | refine Yd ?_ | refine Ye ?_ | refine Yf ?_ | refine Yg ?_ | refine Yh ?_ | refine Yi rfl ?_ | refine Yj rfl ?_ | refine Yk rfl ?_ | refine Yl rfl ?_)
  refine LoopW.to (LoopW.upP g (fun k => [(0, LI a), (1, LI b), (12, I a.length), (13, I k)]) (fun _ => _) (fun k => a.take k = b.take k) a.length (fun k hk hp ih => ?_) 0 (Nat.zero_le _) (by simp)) rfl rfl
  by_cases hlt : k < a.length
  ·have hlb : k < b.length := by omega
   by_cases he : a[k] = b[k]
   ·have ih := ih hlt (by rw [List.take_add_one, List.take_add_one, hp, List.getElem?_eq_getElem hlt, List.getElem?_eq_getElem hlb, he])
    repeat' ((conv => whnf); first
    | refine Ya ?_ | refine Yb ?_ | refine Yc ?_ | refine Yd ?_ | refine Ye ?_ | refine Yf ?_ | refine Yg ?_ | refine Yh ?_ | refine Yi rfl ?_ | refine Yj rfl ?_ | refine Yk rfl ?_ | refine Yl rfl ?_
     | (refine Pick.intI k rfl hlt ?_)
     | (refine Pick.intI k rfl hlb ?_)
     | (refine LoopW.to ih rfl rfl))
   ·rw [← hR, decide_eq_false (fun e => he (by subst e; rfl))] at hK
    repeat' ((conv => whnf); first
    | refine Ya ?_ | refine Yb ?_ | refine Yc ?_ | refine Yd ?_ | refine Ye ?_ | refine Yf ?_ | refine Yg ?_ | refine Yh ?_ | refine Yi rfl ?_ | refine Yj rfl ?_ | refine Yk rfl ?_ | refine Yl rfl ?_
     | (refine Pick.intI k rfl hlt ?_)
     | (refine Pick.intI k rfl hlb ?_)
     | (exact hK))
  ·have hk' : k = a.length := by omega
   subst hk'
   rw [List.take_of_length_le (Nat.le_refl _), List.take_of_length_le (by omega)] at hp
   rw [← hR, decide_eq_true hp] at hK
   repeat' ((conv => whnf); first
   | refine Ya ?_ | refine Yb ?_ | refine Yc ?_ | refine Yd ?_ | refine Ye ?_ | refine Yf ?_ | refine Yg ?_ | refine Yh ?_ | refine Yi rfl ?_ | refine Yj rfl ?_ | refine Yk rfl ?_ | refine Yl rfl ?_
    | (exact hK))
 ·rw [decide_eq_false (fun e => hl (by rw [e]))] at hK
  repeat' ((conv => whnf); first
  | refine Ya ?_ | refine Yb ?_ | refine Yc ?_ | refine Yd ?_ | refine Ye ?_ | refine Yf ?_ | refine Yg ?_ | refine Yh ?_ | refine Yi rfl ?_ | refine Yj rfl ?_ | refine Yk rfl ?_ | refine Yl rfl ?_
   | (exact hK))
def chkOd (R o : List Int) : Int := if o.length ≠ R.length then 2 else if o = R then 0 else 21
theorem s_CheckRank {p : Prg} {key : Int} {l : List Clm} {s : List Int} (o : List Int) (h : chkRk p key l = 0) (hl : l.length ≤ 12) (ho : o.length ≤ 100) (hs : Srt l.length (ltB p l (lotL key l)) s) : Fc E n_priority_CheckRank [Pgv p, I key, LM l, LI o] (I (chkOd (rankL p l s) o)) := by
 have ok := rk_ok h hl
 have h1 := s_checkRanking g p key l ok.sm (by omega)
 have h2 := s_ranked g h hl
 have h3 := s_order g ok (rk_tot h) hs
 have h5 := s_EqualI g o (rankL p l s) (by omega)
 have h6 := fun {K} => in_EqD g p o (rankL p l s) (K := K) (by omega)
 have hRl : (rankL p l s).length = l.length := by rw [rankL_length, hs.len]
 rw [h] at h1
 refine g.fn code_priority_CheckRank rfl ?_
 unfold chkOd
 by_cases hz : o.length = l.length
 ·rw [if_neg (fun h => h (by omega))]
  by_cases he : o = rankL p l s
  ·rw [decide_eq_true he] at h5 h6
   rw [if_pos he]
   repeat' ((conv => whnf); first
   | refine Ya ?_ | refine Yb ?_ | refine Yc ?_ | refine Yd ?_ | refine Ye ?_ | refine Yf ?_ | refine Yg ?_ | refine Yh ?_ | refine Yi rfl ?_ | refine Yj rfl ?_ | refine Yk rfl ?_ | refine Yl rfl ?_
    | (apply CallI.of; assumption)
    | (refine h6 ?_)
    | (refine CallI.of (s_pwhen g _ _) ?_)
    | (refine CallI.of (s_pfirst2 g _ _) ?_)
    | (refine Ret.mk rfl))
  ·rw [decide_eq_false he] at h5 h6
   rw [if_neg he]
   repeat' ((conv => whnf); first
   | refine Ya ?_ | refine Yb ?_ | refine Yc ?_ | refine Yd ?_ | refine Ye ?_ | refine Yf ?_ | refine Yg ?_ | refine Yh ?_ | refine Yi rfl ?_ | refine Yj rfl ?_ | refine Yk rfl ?_ | refine Yl rfl ?_
    | (apply CallI.of; assumption)
    | (refine h6 ?_)
    | (refine CallI.of (s_pwhen g _ _) ?_)
    | (refine CallI.of (s_pfirst2 g _ _) ?_)
    | (refine Ret.mk rfl))
 ·rw [if_pos (by omega)]
  repeat' ((conv => whnf); first
  | refine Ya ?_ | refine Yb ?_ | refine Yc ?_ | refine Yd ?_ | refine Ye ?_ | refine Yf ?_ | refine Yg ?_ | refine Yh ?_ | refine Yi rfl ?_ | refine Yj rfl ?_ | refine Yk rfl ?_ | refine Yl rfl ?_
   | (apply CallI.of; assumption)
   | (refine CallI.of (s_pwhen g _ _) ?_)
   | (refine CallI.of (s_pfirst2 g _ _) ?_)
   | (refine Ret.mk rfl))
end
end Go.Proofs.YtlnlcdnpgjhaaaaGreatDoor.Co
/-
 Priority: the order of claims that are given the other way round, and of a program without a share; in plain Lean.
-/
namespace Go.Proofs.YtlnlcdnpgjhaaaaGreatDoor.Co
open Go Go.Evl
set_option maxRecDepth 100000
theorem chkCmG_of : ∀ {l : List Clm} {seen : List (List UInt8)}, (∀ c ∈ l, chkCl c = 0) → (∀ c ∈ l, c.rq.nm ∉ seen) → (nmsM l).Nodup → chkCmG seen l = 0
 | [], _, _, _, _ => rfl
 | x :: r, seen, h1, h2, h3 => by
  have hn := List.nodup_cons.1 h3
  have hz : chkCm seen x = 0 := by
   unfold chkCm
   rw [h1 x (List.mem_cons_self ..), if_neg (h2 x (List.mem_cons_self ..))]
   rfl
  rw [chkCmG, if_pos hz]
  refine chkCmG_of (fun c hc => h1 c (List.mem_cons_of_mem _ hc)) (fun c hc hm => ?_) hn.2
  rcases List.mem_append.1 hm with hm | hm
  ·exact h2 c (List.mem_cons_of_mem _ hc) hm
  ·exact hn.1 (List.mem_map.2 ⟨c, hc, List.mem_singleton.1 hm⟩)
theorem chkCms_rev {l : List Clm} (h : chkCms l = 0) : chkCms l.reverse = 0 := by
 obtain ⟨h1, h2, h3⟩ := chkCms_zero h
 unfold chkCms
 rw [List.length_reverse, if_neg (by omega)]
 refine chkCmG_of (fun c hc => h2 c (List.mem_reverse.1 hc)) (fun _ _ h => by cases h) ?_
 unfold nmsM
 rw [List.map_reverse]
 exact (List.reverse_perm _).nodup_iff.2 h3
def rv (n : Nat) (x : Int) : Int := (n : Int) - 1 - x
theorem rv_in {n : Nat} {x : Int} (h : x ∈ idL n) : rv n x ∈ idL n := by
 have := idL_mem.1 h
 unfold rv
 exact idL_mem.2 (by omega)
theorem rv_perm (n : Nat) : ((idL n).map (rv n)).Perm (idL n) := by
 have e : (idL n).map (rv n) = (idL n).reverse := by
  refine List.ext_getElem (by simp) fun i h1 h2 => ?_
  rw [List.getElem_map, List.getElem_reverse]
  simp only [List.length_map, idL_length] at h1
  simp only [idL, List.getElem_map, List.getElem_range, List.length_map, List.length_range, rv]
  omega
 rw [e]
 exact List.reverse_perm _
theorem rv_place {n : Nat} {lt lt' : Int → Int → Bool} {x : Int} (h : ∀ y ∈ idL n, lt' (rv n y) (rv n x) = lt y x) : placeL n lt' (rv n x) = placeL n lt x := by
 unfold placeL
 rw [← (rv_perm n).countP_eq, List.countP_map]
 exact List.countP_congr fun y hy => by rw [Function.comp, h y hy]
theorem rv_get {l : List Clm} {x : Int} (h : x ∈ idL l.length) : l.reverse[(rv l.length x).toNat]? = l[x.toNat]? := by
 have := idL_mem.1 h
 unfold rv
 rw [List.getElem?_reverse (by omega)]
 congr 1
 omega
theorem rv_nm {l : List Clm} {x : Int} (h : x ∈ idL l.length) : nmAt l.reverse (rv l.length x) = nmAt l x := by
 unfold nmAt
 rw [rv_get h]
theorem rv_at {l : List Clm} {x : Int} (h : x ∈ idL l.length) : atC l.reverse (rv l.length x) = atC l x := by
 unfold atC
 rw [rv_get h]
theorem lotL_at {key : Int} {l : List Clm} {x : Int} (h : x ∈ idL l.length) : (lotL key l).getD x.toNat 0 = (drawAll key l.length).getD (placeL l.length (ltN l) x) 0 := by
 have h3 := idL_mem.1 h
 have h4 : x.toNat < l.length := by omega
 have h5 : ((x.toNat : Nat) : Int) = x := by omega
 simp [lotL, idL, List.getD, h4, h5]
theorem rv_lot {key : Int} {l : List Clm} {x : Int} (h : x ∈ idL l.length) : (lotL key l.reverse).getD (rv l.length x).toNat 0 = (lotL key l).getD x.toNat 0 := by
 have hr : rv l.length x ∈ idL l.reverse.length := by rw [List.length_reverse]; exact rv_in h
 rw [lotL_at hr, lotL_at h, List.length_reverse]
 congr 1
 refine rv_place fun y hy => ?_
 unfold ltN
 rw [rv_nm hy, rv_nm h]
theorem rv_lt {p : Prg} {key : Int} {l : List Clm} {a b : Int} (ha : a ∈ idL l.length) (hb : b ∈ idL l.length) : ltB p l.reverse (lotL key l.reverse) (rv l.length a) (rv l.length b) = ltB p l (lotL key l) a b := by
 unfold ltB
 rw [rv_at ha, rv_at hb, rv_lot ha, rv_lot hb]
theorem rv_srt {p : Prg} {key : Int} {l : List Clm} {s : List Int} (hs : Srt l.length (ltB p l (lotL key l)) s) : Srt l.reverse.length (ltB p l.reverse (lotL key l.reverse)) (s.map (rv l.length)) := by
 have hm : ∀ x ∈ s, x ∈ idL l.length := fun x hx => hs.pm.mem_iff.1 hx
 refine ⟨by rw [List.length_reverse]; exact (hs.pm.map _).trans (rv_perm _), ?_⟩
 refine List.pairwise_map.2 ?_
 have hu := hs.up
 clear hs
 induction s with
 | nil => exact List.Pairwise.nil
 | cons x r ih =>
  have hp := List.pairwise_cons.1 hu
  refine List.pairwise_cons.2 ⟨fun y hy => ?_, ih (fun y hy => hm y (List.mem_cons_of_mem _ hy)) hp.2⟩
  rw [rv_lt (hm x (List.mem_cons_self ..)) (hm y (List.mem_cons_of_mem _ hy))]
  exact hp.1 y hy
theorem rv_pool {p : Prg} {l : List Clm} : ∀ {s : List Int}, (∀ x ∈ s, x ∈ idL l.length) → poolA p l.reverse (s.map (rv l.length)) = poolA p l s
 | [], _ => rfl
 | x :: r, hm => by
  have ih := rv_pool (p := p) (s := r) fun y hy => hm y (List.mem_cons_of_mem _ hy)
  unfold poolA at ih ⊢
  rw [List.map_cons, List.findIdx_cons, List.findIdx_cons, ih]
  unfold clA
  rw [rv_at (hm x (List.mem_cons_self ..))]
theorem rv_rank {p : Prg} {l : List Clm} {s : List Int} (hm : ∀ x ∈ s, x ∈ idL l.length) : rankL p l.reverse (s.map (rv l.length)) = (rankL p l s).map (rv l.length) := by
 unfold rankL
 rw [rv_pool hm, List.map_append, List.map_take, List.map_map, ← List.map_drop, List.map_map]
 have hmd : ∀ x ∈ s.drop (poolA p l s), x ∈ idL l.length := fun x hx => hm x (List.mem_of_mem_drop hx)
 generalize s.drop (poolA p l s) = P at *
 have e : P.map ((fun i => (atC l.reverse i).ne) ∘ rv l.length) = P.map fun i => (atC l i).ne := List.map_congr_left fun x hx => by rw [Function.comp, rv_at (hmd x hx)]
 rw [e]
 congr 1
 have hp : (shrL p.of p.fo (P.map fun i => (atC l i).ne)).Perm _ := shrG_perm p.of p.fo _ _ _ _ (selG_length 0 _)
 refine List.map_congr_left fun j hj => ?_
 have hlt : j.toNat < P.length := by
  rcases List.mem_append.1 (hp.mem_iff.1 hj) with h | h
  all_goals
   obtain ⟨i, h1, h2⟩ := selG_mem h
   have := (List.getElem?_eq_some_iff.1 h2).1
   rw [List.length_map] at this
   omega
 simp [List.getD, hlt]
theorem rankL_ord {p : Prg} {l : List Clm} {s : List Int} (hs : s.Perm (idL l.length)) : Ord l.length (rankL p l s) := by
 have hl : (rankL p l s).length = l.length := by rw [rankL_length, hs.length_eq, idL_length]
 have hmem : ∀ k (h : k < (rankL p l s).length), (rankL p l s)[k] ∈ idL l.length := fun k h => hs.mem_iff.1 (rankL_in (List.getElem_mem h))
 have hg : ∀ k (h : k < (rankL p l s).length), (rankL p l s).getD k 0 = (rankL p l s)[k] := fun k h => by simp [List.getD, h]
 have hnd : (rankL p l s).Nodup := by
  have hsn : (s.take (poolA p l s) ++ s.drop (poolA p l s)).Nodup := by
   rw [List.take_append_drop]
   exact hs.nodup_iff.2 (idL_nodup _)
  obtain ⟨n1, n2, n3⟩ := List.nodup_append.1 hsn
  unfold rankL
  generalize s.drop (poolA p l s) = P at *
  have ho := shrL_ord p.of p.fo (P.map fun i => (atC l i).ne)
  rw [List.length_map] at ho
  generalize shrL p.of p.fo (P.map fun i => (atC l i).ne) = r at *
  have hrl := ho.len
  have hr : ∀ k (h : k < r.length), r.getD k 0 = r[k] := fun k h => by simp [List.getD, h]
  have hP : ∀ k (h : k < r.length), r[k].toNat < P.length := fun k h => by
   have := ho.rng k (by omega)
   rw [hr k h] at this
   omega
  have hv : ∀ k (h : k < r.length), P.getD r[k].toNat 0 = P[r[k].toNat]'(hP k h) := fun k h => by simp [List.getD, hP k h]
  refine List.nodup_append.2 ⟨n1, ?_, fun x hx y hy => ?_⟩
  ·refine List.pairwise_iff_getElem.2 fun i j hi hj hij e => ?_
   rw [List.length_map] at hi hj
   rw [List.getElem_map, List.getElem_map, hv i hi, hv j hj] at e
   have hw := List.pairwise_iff_getElem.1 n2
   have hne : r[i].toNat ≠ r[j].toNat := fun hc => by
    have h1 := ho.rng i (by omega)
    have h2 := ho.rng j (by omega)
    rw [hr i hi] at h1
    rw [hr j hj] at h2
    have := ho.inj i j (by omega) (by omega) (by rw [hr i hi, hr j hj]; omega)
    omega
   rcases Nat.lt_or_gt_of_ne hne with h | h
   ·exact hw _ _ (hP i hi) (hP j hj) h e
   ·exact hw _ _ (hP j hj) (hP i hi) h e.symm
  ·obtain ⟨j, hj, rfl⟩ := List.mem_map.1 hy
   obtain ⟨k, hk, rfl⟩ := List.getElem_of_mem hj
   rw [hv k hk]
   exact n3 x hx _ (List.getElem_mem _)
 refine ⟨hl, fun k hk => ?_, fun i j hi hj e => ?_⟩
 ·rw [hg k (by omega)]
  exact idL_mem.1 (hmem k (by omega))
 ·rw [hg i (by omega), hg j (by omega)] at e
  have hw := List.pairwise_iff_getElem.1 hnd
  rcases Nat.lt_trichotomy i j with h | h | h
  ·exact absurd e (hw i j (by omega) (by omega) h)
  ·exact h
  ·exact absurd e.symm (hw j i (by omega) (by omega) h)
theorem rankL_cls {p : Prg} {l : List Clm} {s w : List Int} (hs : s.Pairwise fun a b => ltB p l w a b = true) {i : Nat} (hi : i < (rankL p l s).length) : if i < poolA p l s then clA p l (rankL p l s)[i] < p.po else p.po ≤ clA p l (rankL p l s)[i] := by
 have hle := poolA_le p l s
 have hRl := rankL_length p l s
 have htl : (s.take (poolA p l s)).length = poolA p l s := by simp; omega
 split
 ·rename_i h
  have e0 : (rankL p l s)[i]? = s[i]? := by
   unfold rankL
   rw [List.getElem?_append_left (by omega), List.getElem?_take_of_lt h]
  rw [List.getElem?_eq_getElem hi, List.getElem?_eq_getElem (show i < s.length by omega)] at e0
  have e := Option.some.inj e0
  rw [e]
  exact pool_before h
 ·rename_i h
  have hin : (rankL p l s)[i] ∈ s.drop (poolA p l s) := by
   have hd : (rankL p l s)[i] ∈ (rankL p l s).drop (poolA p l s) := by
    rw [List.mem_drop_iff_getElem]
    exact ⟨i - poolA p l s, by omega, by congr 1; omega⟩
   have e : (rankL p l s).drop (poolA p l s) = (shrL p.of p.fo ((s.drop (poolA p l s)).map fun i => (atC l i).ne)).map fun j => (s.drop (poolA p l s)).getD j.toNat 0 := by
    conv => lhs; unfold rankL
    rw [List.drop_append_of_le_length (by omega), List.drop_of_length_le (by omega), List.nil_append]
   rw [e] at hd
   obtain ⟨j, hj, he⟩ := List.mem_map.1 hd
   have hp : (shrL p.of p.fo ((s.drop (poolA p l s)).map fun i => (atC l i).ne)).Perm _ := shrG_perm p.of p.fo _ _ _ _ (selG_length 0 _)
   have hlt : j.toNat < (s.drop (poolA p l s)).length := by
    rcases List.mem_append.1 (hp.mem_iff.1 hj) with h | h
    all_goals
     obtain ⟨i, h1, h2⟩ := selG_mem h
     have := (List.getElem?_eq_some_iff.1 h2).1
     rw [List.length_map] at this
     omega
   rw [← he, List.getD, List.getElem?_eq_getElem hlt]
   exact List.getElem_mem hlt
  obtain ⟨k, hk, he⟩ := List.getElem_of_mem hin
  rw [← he, List.getElem_drop]
  exact pool_behind hs (by simp at hk; omega) (Nat.le_add_right _ _)
end Go.Proofs.YtlnlcdnpgjhaaaaGreatDoor.Co
/-
 Priority: what puts claims behind others, orders with two neighbours exchanged, programs without a share; in plain Lean.
-/
namespace Go.Proofs.YtlnlcdnpgjhaaaaGreatDoor.Co
open Go Go.Evl
set_option maxRecDepth 100000
abbrev lotW : List UInt8 := [108, 111, 116]
abbrev shareW : List UInt8 := [115, 104, 97, 114, 101]
theorem dcF_in {f h : List UInt8 → Int} : ∀ {l : List Kyt}, (∀ k ∈ l, k.fa ∈ fcL) → (dcF f h l).2 = [] ∨ (dcF f h l).2 ∈ fcL
 | [], _ => .inl rfl
 | k :: r, hk => by
  have ih := dcF_in (f := f) (h := h) (l := r) fun x hx => hk x (List.mem_cons_of_mem _ hx)
  rw [dcF]
  split
  ·exact ih
  ·exact .inr (hk k (List.mem_cons_self ..))
theorem dcP_word {p : Prg} (hk : OkKy p) (a b : Clm) : (dcP p a b).2 ≠ lotW ∧ (dcP p a b).2 ≠ shareW := by
 have key : ∀ s : List UInt8, (s = [] ∨ s ∈ fcL ∨ s = [99, 108, 97, 115, 115]) → s ≠ lotW ∧ s ≠ shareW := fun s h => by
  simp only [fcL, List.mem_cons, List.not_mem_nil, or_false] at h
  rcases h with rfl | (rfl | rfl | rfl | rfl | rfl | rfl | rfl | rfl | rfl | rfl) | rfl <;> decide
 refine key _ ?_
 unfold dcP
 rcases Int.lt_trichotomy (clsG a 0 p.cl) (clsG b 0 p.cl) with e | e | e
 ·rw [dcC_lt _ _ _ e]; exact .inr (.inr rfl)
 ·rw [e, dcC_same]
  have : ∀ k ∈ (keyC p (clsG b 0 p.cl)).getD [], k.fa ∈ fcL := fun k hkk => by
   unfold keyC at hkk
   cases hc : p.cl[(clsG b 0 p.cl).toNat]? with
   | none => rw [hc] at hkk; simp at hkk
   | some c =>
    rw [hc] at hkk
    exact hk c (List.mem_of_getElem? hc) k hkk
  rcases dcF_in (f := factV a) (h := factV b) this with h | h
  ·exact .inl h
  ·exact .inr (.inl h)
 ·rw [dcC_gt _ _ _ e]; exact .inr (.inr rfl)
theorem why_ok {p : Prg} (hk : OkKy p) (l : List Clm) (w : List Int) (a b : Int) : (whyW p l w a b = lotW → (dcP p (atC l a) (atC l b)).1 = 0) ∧ (whyW p l w a b ≠ lotW → whyW p l w a b ≠ shareW → (dcP p (atC l a) (atC l b)).1 = -1) ∧ (whyW p l w a b = shareW → (dcP p (atC l a) (atC l b)).1 ≠ -1) := by
 have hw := dcP_what hk (atC l a) (atC l b)
 have hd := dcP_word hk (atC l a) (atC l b)
 have hs := dcP_swap p (atC l a) (atC l b)
 have hr := dcP_range p (atC l a) (atC l b)
 have hi := @ltB_iff p l w b a
 unfold whyW
 by_cases h1 : ltB p l w b a = true
 ·rw [if_pos h1]
  have h2 := hi.1 h1
  exact ⟨fun h => absurd h (by decide), fun _ h => absurd rfl h, fun _ => by omega⟩
 ·rw [if_neg h1]
  have h2 := fun h => h1 (hi.2 h)
  by_cases h3 : (dcP p (atC l a) (atC l b)).2 = []
  ·rw [if_pos h3]
   exact ⟨fun _ => hw.1 h3, fun h => absurd rfl h, fun h => absurd h (by decide)⟩
  ·rw [if_neg h3]
   have h4 : (dcP p (atC l a) (atC l b)).1 ≠ 0 := fun h => h3 (hw.2 h)
   have h5 : ¬ (dcP p (atC l b) (atC l a)).1 < 0 := fun h => h2 (.inl h)
   exact ⟨fun h => absurd h hd.1, fun _ _ => by omega, fun h => absurd h hd.2⟩
def swpN (R : List Int) (i : Nat) : List Int := (R.set i (R.getD (i + 1) 0)).set (i + 1) (R.getD i 0)
theorem swpN_len (R : List Int) (i : Nat) : (swpN R i).length = R.length := by simp [swpN]
theorem swpN_ne {n : Nat} {R : List Int} (h : Ord n R) {i : Nat} (hi : i + 1 < n) : swpN R i ≠ R := fun e => by
 have hl := h.len
 have h1 : (swpN R i).getD i 0 = R.getD i 0 := by rw [e]
 unfold swpN at h1
 rw [getD_set _ _ _ _ (by simp; omega), if_neg (by omega), getD_set _ _ _ _ (by omega), if_pos rfl] at h1
 have := h.inj (i + 1) i hi (by omega) h1
 omega
def plainP (p : Prg) : Prg := ⟨p.cl, p.cl.length, p.of, 0⟩
theorem plainP_ok {p : Prg} (h : chkPg p = 0) : chkPg (plainP p) = 0 := by
 have ok := chkPg_zero h
 have ho := ok.of'
 unfold chkPg at h ⊢
 rw [firstI_zero] at h ⊢
 intro x hx
 simp only [List.mem_cons, List.not_mem_nil, or_false] at hx
 rcases hx with rfl | rfl | rfl | rfl
 ·exact h _ (by simp [plainP])
 ·exact h (if 16 < p.cl.length then 5 else 0) (by simp)
 ·exact h _ (by simp [plainP])
 ·unfold chkPool plainP
  rw [rng_zero.2 (by dsimp only; omega), rng_zero.2 (by dsimp only; omega), rng_zero.2 (by dsimp only; omega)]
  rfl
theorem plainP_rk {p : Prg} {key : Int} {l : List Clm} (h : chkRk p key l = 0) : chkRk (plainP p) key l = 0 := by
 obtain ⟨h1, h2, h3⟩ := chkRk_zero h
 unfold chkRk
 rw [plainP_ok h1, rng_zero.2 h2, h3]
 rfl
theorem rankL_pre {p : Prg} {l : List Clm} {s : List Int} {i : Nat} (h : i < poolA p l s) : (rankL p l s).getD i 0 = s.getD i 0 := by
 have hle := poolA_le p l s
 have e0 : (rankL p l s)[i]? = s[i]? := by
  unfold rankL
  rw [List.getElem?_append_left (by simp; omega), List.getElem?_take_of_lt h]
 rw [List.getD, List.getD, e0]
theorem plain_le {p : Prg} {l : List Clm} {s w : List Int} (hs : s.Pairwise fun a b => ltB p l w a b = true) {j i : Nat} (hji : j < i) (hi : i < s.length) : (dcP p (atC l ((rankL (plainP p) l s).getD j 0)) (atC l ((rankL (plainP p) l s).getD i 0))).1 ≤ 0 := by
 have hsp : s.Pairwise fun a b => ltB (plainP p) l w a b = true := hs
 have hRl := rankL_length (plainP p) l s
 have hg : ∀ k (h : k < (rankL (plainP p) l s).length), (rankL (plainP p) l s).getD k 0 = (rankL (plainP p) l s)[k] := fun k h => by simp [List.getD, h]
 have ci := rankL_cls (p := plainP p) hsp (i := i) (by omega)
 have cj := rankL_cls (p := plainP p) hsp (i := j) (by omega)
 rw [← hg i (by omega)] at ci
 rw [← hg j (by omega)] at cj
 have e : ∀ x : Int, clA (plainP p) l x = clsG (atC l x) 0 p.cl := fun _ => rfl
 have u := fun x => (clsG_ge (atC l x) 0 p.cl).2
 have hpo : (plainP p).po = p.cl.length := rfl
 by_cases hia : i < poolA (plainP p) l s
 ·rw [rankL_pre hia, rankL_pre (p := plainP p) (i := j) (by omega)]
  have hj : j < s.length := by omega
  have := List.pairwise_iff_getElem.1 hs j i hj hi hji
  rw [ltB_iff] at this
  have e1 : s.getD j 0 = s[j] := by simp [List.getD, hj]
  have e2 : s.getD i 0 = s[i] := by simp [List.getD, hi]
  rw [e1, e2]
  omega
 ·rw [if_neg hia, e, hpo] at ci
  have ui := u ((rankL (plainP p) l s).getD i 0)
  have uj := u ((rankL (plainP p) l s).getD j 0)
  rw [e, hpo] at cj
  unfold dcP
  rw [dcC_fst]
  by_cases hja : j < poolA (plainP p) l s
  ·rw [if_pos hja] at cj
   rw [if_pos (by omega)]
   decide
  ·rw [if_neg hja] at cj
   rw [if_neg (by omega), if_neg (by omega)]
   have hk : clsG (atC l ((rankL (plainP p) l s).getD j 0)) 0 p.cl = ((p.cl.length : Nat) : Int) := by omega
   rw [hk, keyC_out (Nat.le_refl _)]
   exact Int.le_refl 0
end Go.Proofs.YtlnlcdnpgjhaaaaGreatDoor.Co
/-
 Priority: Rank, Why and Better, by the reference.
-/
namespace Go.Proofs.YtlnlcdnpgjhaaaaGreatDoor.Co
open Go Go.Evl
set_option maxRecDepth 100000
structure Bas (n : Nat) (lt : Int → Int → Bool) (i : Nat) (T : List Int) : Prop where
 len : T.length = n
 got : ∀ j : Nat, j < i → T.getD (placeL n lt j) 0 = j
theorem Bas.step {n : Nat} {lt : Int → Int → Bool} {i : Nat} {T : List Int} (t : Tot n lt) (h : Bas n lt i T) (hi : i < n) : Bas n lt (i + 1) (T.set (placeL n lt i) i) := by
 have hm : (i : Int) ∈ idL n := idL_mem.2 (by omega)
 refine ⟨by rw [List.length_set]; exact h.len, fun j hj => ?_⟩
 rw [getD_set _ _ _ _ (by rw [h.len]; exact place_in t hm)]
 by_cases e : j = i
 ·subst e
  rw [if_pos rfl]
 ·rw [if_neg fun hc => e (by have := place_inj t (a := (i : Int)) (b := (j : Int)) hm (idL_mem.2 (by omega)) hc; omega)]
  exact h.got j (by omega)
theorem Bas.done {n : Nat} {lt : Int → Int → Bool} {T s : List Int} (t : Tot n lt) (hs : Srt n lt s) (h : Bas n lt n T) : T = s := by
 refine List.ext_getElem (by rw [h.len, hs.len]) fun k h1 h2 => ?_
 obtain ⟨j, hj, hjn⟩ := idx_nat (hs.mem h2)
 have hp := hs.place t h2
 have hg := h.got j hjn
 rw [← hj, hp, List.getD, List.getElem?_eq_getElem h1, hj] at hg
 rw [hj]
 exact hg
end Go.Proofs.YtlnlcdnpgjhaaaaGreatDoor.Co
/-
 Priority: the laws' copies of a program.
-/
namespace Go.Proofs.YtlnlcdnpgjhaaaaGreatDoor.Co
open Go Go.Evl
set_option maxRecDepth 100000
theorem fl_succ {α : Type} (f : α → List D) {l : List α} {k : Nat} (h : k < l.length) : (l.take (k + 1)).flatMap f = (l.take k).flatMap f ++ f l[k] := by
 rw [List.take_add_one, List.getElem?_eq_getElem h, List.flatMap_append]
 simp
theorem fl_len {α : Type} (f : α → List D) (n : Nat) (hf : ∀ a, (f a).length = n) {l : List α} {k : Nat} (h : k ≤ l.length) : ((l.take k).flatMap f).length = k * n := by
 rw [flatR_length f n hf, List.length_take, Nat.min_eq_left h]
section
variable {E : Oracle} (g : Good E)
include g
set_option maxHeartbeats 8000000 in
theorem w_program (p : Prg) (hs : SmallP p) : Fc E n_law05_program [Pgv p] (Pgv p) := by
 refine g.fn code_law05_program rfl ?_
 obtain ⟨l1, l2⟩ := hs
 repeat' ((conv => whnf); first
 | refine Ya ?_ | refine Yb ?_ | refine Yc ?_ | refine Yd ?_ | refine Ye ?_ | refine Yf ?_ | refine Yg ?_ | refine Yh ?_ | refine Yi rfl ?_ | refine Yj rfl ?_ | refine Yk rfl ?_ | refine Yl rfl ?_)
 refine LoopW.to (LoopW.up g (fun k => [(2, .ptr ⟨0, 2, 1⟩ 0 0), (3, .ptr ⟨0, 3, 1⟩ 0 0), (19, LC p.cl), (20, I p.cl.length), (21, I k)])
  (fun k => [(⟨0, 1, 0⟩, .cells ty_turnroundref05_Program [.d (.list p.cl.length (p.cl.flatMap Cls.cells)), .d (DI p.po), .d (DI p.of), .d (DI p.fo)]), (⟨0, 2, 0⟩, .row false ty_priority_Class 3 0 []), (⟨0, 2, 1⟩, .cells ty_priority_Program [.ref ⟨0, 2, 0⟩ 0 0 0, .d (DI 0), .d (DI 0), .d (DI 0)]), (⟨0, 17, 0⟩, .row false ty_priority_Class 3 k ((p.cl.take k).flatMap Cls.cells)), (⟨0, 3, 0⟩, .row false ty_priority_Class 3 0 []), (⟨0, 3, 1⟩, .cells ty_priority_Program [.ref ⟨0, 17, 0⟩ 0 k k, .d (DI p.po), .d (DI p.of), .d (DI p.fo)])])
  p.cl.length (fun k hk ih => ?_) 0 (Nat.zero_le _)) rfl rfl
 have hfl := fl_len Cls.cells 3 Cls.cells_length hk
 by_cases hlt : k < p.cl.length
 ·have ih := ih hlt
  rw [fl_succ Cls.cells hlt] at ih
  have l3 := l2 _ (List.getElem_mem hlt)
  generalize hx : p.cl[k] = x at *
  obtain ⟨nm, wh, ky⟩ := x
  obtain ⟨l4, l5⟩ := l3
  dsimp only at l4 l5
  repeat' ((conv => whnf); first
  | refine Ya ?_ | refine Yb ?_ | refine Yc ?_ | refine Yd ?_ | refine Ye ?_ | refine Yf ?_ | refine Yg ?_ | refine Yh ?_ | refine Yi rfl ?_ | refine Yj rfl ?_ | refine Yk rfl ?_ | refine Yl rfl ?_
   | (refine PickW.rec Cls.cells_length k rfl hlt ?_; rw [hx]))
  refine LoopW.to (LoopW.up g (fun j => [(2, .ptr ⟨0, 2, 1⟩ 0 0), (3, .ptr ⟨0, 3, 1⟩ 0 0), (5, .ptr ⟨0, 5, 0⟩ 0 0), (6, .ptr ⟨0, 6, 2⟩ 0 0), (19, LC p.cl), (20, I p.cl.length), (21, I k), (29, LT wh), (30, I wh.length), (31, I j)])
   (fun j => [(⟨0, 1, 0⟩, .cells ty_turnroundref05_Program [.d (.list p.cl.length (p.cl.flatMap Cls.cells)), .d (DI p.po), .d (DI p.of), .d (DI p.fo)]), (⟨0, 2, 0⟩, .row false ty_priority_Class 3 0 []), (⟨0, 2, 1⟩, .cells ty_priority_Program [.ref ⟨0, 2, 0⟩ 0 0 0, .d (DI 0), .d (DI 0), .d (DI 0)]), (⟨0, 17, 0⟩, .row false ty_priority_Class 3 k ((p.cl.take k).flatMap Cls.cells)), (⟨0, 3, 0⟩, .row false ty_priority_Class 3 0 []), (⟨0, 3, 1⟩, .cells ty_priority_Program [.ref ⟨0, 17, 0⟩ 0 k k, .d (DI p.po), .d (DI p.of), .d (DI p.fo)]), (⟨0, 5, 0⟩, .cells ty_turnroundref05_Class [.d (.str nm), .d (.list wh.length (wh.flatMap Tst.cells)), .d (.list ky.length (ky.flatMap Kyt.cells))]), (⟨0, 27, 0⟩, .row false ty_priority_Test 3 j ((wh.take j).flatMap Tst.cells)), (⟨0, 27, 1⟩, .row false ty_priority_Key 2 0 ([])), (⟨0, 6, 0⟩, .row false ty_priority_Test 3 0 []), (⟨0, 6, 1⟩, .row false ty_priority_Key 2 0 []), (⟨0, 6, 2⟩, .cells ty_priority_Class [.d (.str nm), .ref ⟨0, 27, 0⟩ 0 j j, .ref ⟨0, 27, 1⟩ 0 0 0])])
   wh.length (fun j hj jh => ?_) 0 (Nat.zero_le _)) rfl rfl
  have hft := fl_len Tst.cells 3 Tst.cells_length hj
  by_cases hjl : j < wh.length
  ·have jh := jh hjl
   rw [fl_succ Tst.cells hjl] at jh
   repeat' ((conv => whnf); first
   | refine Ya ?_ | refine Yb ?_ | refine Yc ?_ | refine Yd ?_ | refine Ye ?_ | refine Yf ?_ | refine Yg ?_ | refine Yh ?_ | refine Yi rfl ?_ | refine Yj rfl ?_ | refine Yk rfl ?_ | refine Yl rfl ?_
    | (refine PickW.rec Tst.cells_length j rfl hjl ?_)
    | (refine Need.mk (by simp only [List.length_cons, List.length_nil]; omega) ?_)
    | (refine LoopW.to jh rfl rfl))
  ·have ej : wh.take j = wh := List.take_of_length_le (by omega)
   have hj' : j = wh.length := by omega
   subst hj'
   rw [ej]
   repeat' ((conv => whnf); first
   | refine Ya ?_ | refine Yb ?_ | refine Yc ?_ | refine Yd ?_ | refine Ye ?_ | refine Yf ?_ | refine Yg ?_ | refine Yh ?_ | refine Yi rfl ?_ | refine Yj rfl ?_ | refine Yk rfl ?_ | refine Yl rfl ?_)
   refine LoopW.to (LoopW.up g (fun i => [(2, .ptr ⟨0, 2, 1⟩ 0 0), (3, .ptr ⟨0, 3, 1⟩ 0 0), (6, .ptr ⟨0, 6, 2⟩ 0 0), (19, LC p.cl), (20, I p.cl.length), (21, I k), (43, LK ky), (44, I ky.length), (45, I i)])
    (fun i => [(⟨0, 1, 0⟩, .cells ty_turnroundref05_Program [.d (.list p.cl.length (p.cl.flatMap Cls.cells)), .d (DI p.po), .d (DI p.of), .d (DI p.fo)]), (⟨0, 2, 0⟩, .row false ty_priority_Class 3 0 []), (⟨0, 2, 1⟩, .cells ty_priority_Program [.ref ⟨0, 2, 0⟩ 0 0 0, .d (DI 0), .d (DI 0), .d (DI 0)]), (⟨0, 17, 0⟩, .row false ty_priority_Class 3 k ((p.cl.take k).flatMap Cls.cells)), (⟨0, 3, 0⟩, .row false ty_priority_Class 3 0 []), (⟨0, 3, 1⟩, .cells ty_priority_Program [.ref ⟨0, 17, 0⟩ 0 k k, .d (DI p.po), .d (DI p.of), .d (DI p.fo)]), (⟨0, 5, 0⟩, .cells ty_turnroundref05_Class [.d (.str nm), .d (.list wh.length (wh.flatMap Tst.cells)), .d (.list ky.length (ky.flatMap Kyt.cells))]), (⟨0, 27, 0⟩, .row false ty_priority_Test 3 wh.length (wh.flatMap Tst.cells)), (⟨0, 27, 1⟩, .row false ty_priority_Key 2 i ((ky.take i).flatMap Kyt.cells)), (⟨0, 6, 0⟩, .row false ty_priority_Test 3 0 []), (⟨0, 6, 1⟩, .row false ty_priority_Key 2 0 []), (⟨0, 6, 2⟩, .cells ty_priority_Class [.d (.str nm), .ref ⟨0, 27, 0⟩ 0 wh.length wh.length, .ref ⟨0, 27, 1⟩ 0 i i])])
    ky.length (fun i hi ik => ?_) 0 (Nat.zero_le _)) rfl rfl
   have hfk := fl_len Kyt.cells 2 Kyt.cells_length hi
   by_cases hil : i < ky.length
   ·have ik := ik hil
    rw [fl_succ Kyt.cells hil] at ik
    repeat' ((conv => whnf); first
    | refine Ya ?_ | refine Yb ?_ | refine Yc ?_ | refine Yd ?_ | refine Ye ?_ | refine Yf ?_ | refine Yg ?_ | refine Yh ?_ | refine Yi rfl ?_ | refine Yj rfl ?_ | refine Yk rfl ?_ | refine Yl rfl ?_
     | (refine PickW.rec Kyt.cells_length i rfl hil ?_)
     | (refine Need.mk (by simp only [List.length_cons, List.length_nil]; omega) ?_)
     | (refine LoopW.to ik rfl rfl))
   ·have ei : ky.take i = ky := List.take_of_length_le (by omega)
    have hi' : i = ky.length := by omega
    subst hi'
    rw [ei]
    repeat' ((conv => whnf); first
    | refine Ya ?_ | refine Yb ?_ | refine Yc ?_ | refine Yd ?_ | refine Ye ?_ | refine Yf ?_ | refine Yg ?_ | refine Yh ?_ | refine Yi rfl ?_ | refine Yj rfl ?_ | refine Yk rfl ?_ | refine Yl rfl ?_
     | (refine Need.mk (by simp only [List.length_cons, List.length_nil]; omega) ?_)
     | (refine LoopW.to ih rfl ?_))
    rw [if_pos ⟨rfl, rfl⟩, if_pos ⟨rfl, rfl⟩]
    rfl
 ·have ek : p.cl.take k = p.cl := List.take_of_length_le (by omega)
  have hk' : k = p.cl.length := by omega
  subst hk'
  rw [ek]
  repeat' ((conv => whnf); first
  | refine Ya ?_ | refine Yb ?_ | refine Yc ?_ | refine Yd ?_ | refine Ye ?_ | refine Yf ?_ | refine Yg ?_ | refine Yh ?_ | refine Yi rfl ?_ | refine Yj rfl ?_ | refine Yk rfl ?_ | refine Yl rfl ?_
   | (refine Need.mk ⟨rfl, by simp⟩ ?_)
   | (refine Ret.mk ?_))
  refine congrArg (fun x => V.d (.agg [.list p.cl.length x, DI p.po, DI p.of, DI p.fo])) (?_ : _ = p.cl.flatMap Cls.cells)
  exact if_pos ⟨rfl, rfl⟩
end
end Go.Proofs.YtlnlcdnpgjhaaaaGreatDoor.Co
/-
 Priority: short programs.
-/
namespace Go.Proofs.YtlnlcdnpgjhaaaaGreatDoor.Co
open Go Go.Evl
set_option maxRecDepth 100000
def shortT (t : Tst) : Bool := decide (t.fa.length ≤ 40 ∧ t.op.length ≤ 40)
def shortK (k : Kyt) : Bool := decide (k.fa.length ≤ 40)
def headC (c : Cls) : Bool := decide (c.nm.length ≤ 40 ∧ (c.wh.length ≤ 4 ∨ c.wh.length = 9) ∧ (c.ky.length ≤ 4 ∨ c.ky.length = 9))
def shortC (c : Cls) : Bool := headC c && (c.wh.all shortT && c.ky.all shortK)
def shortP (p : Prg) : Bool := decide (p.cl.length ≤ 5 ∨ p.cl.length = 17) && p.cl.all shortC
def BigP (p : Prg) : Prop := p.cl.length ≤ 9223372036854775807 ∧ ∀ c ∈ p.cl, c.wh.length ≤ 9223372036854775807 ∧ c.ky.length ≤ 9223372036854775807
theorem shortP_small {p : Prg} (h : shortP p = true) : SmallP p := by
 simp only [shortP, shortC, headC, Bool.and_eq_true, decide_eq_true_eq, List.all_eq_true] at h
 refine ⟨by omega, fun c hc => ?_⟩
 have := (h.2 c hc).1
 exact ⟨by omega, by omega⟩
section
variable {E : Oracle} (g : Good E)
include g
set_option maxHeartbeats 8000000 in
theorem r_ShortP (p : Prg) (hs : BigP p) : Fc E n_ref05_Short [Pgv p] (B (shortP p)) := by
 refine g.fn code_ref05_Short rfl ?_
 obtain ⟨l1, l2⟩ := hs
 unfold shortP
 by_cases hl : p.cl.length ≤ 5 ∨ p.cl.length = 17
 ·rw [decide_eq_true hl, Bool.true_and]
  generalize hR : p.cl.all shortC = R
  repeat' ((conv => whnf); first
  | refine Ya ?_ | refine Yb ?_ | refine Yc ?_ | refine Yd ?_ | refine Ye ?_ | refine Yf ?_ | refine Yg ?_ | refine Yh ?_ | refine Yi rfl ?_ | refine Yj rfl ?_ | refine Yk rfl ?_ | refine Yl rfl ?_
   | (refine Cmp.mk (fun h => ?_) (fun h => ?_)) | (refine Rem.any (by omega) (fun r hr he => ?_)) | (refine Br.mk (fun h => ?_) (fun h => ?_))
   | (exfalso; omega))
  all_goals
   refine LoopW.to (LoopW.upP g (fun k => [(1, .ptr ⟨0, 1, 0⟩ 0 0), (3, I k)]) (fun _ => _) (fun k => (p.cl.drop k).all shortC = R) p.cl.length (fun k hk h0 ih => ?_) 0 (Nat.zero_le _) hR) rfl rfl
   by_cases hlt : k < p.cl.length
   ·rw [List.drop_eq_getElem_cons hlt, List.all_cons] at h0
    have ih := ih hlt
    have l3 := l2 _ (List.getElem_mem hlt)
    generalize hx : p.cl[k] = x at *
    obtain ⟨l4, l5⟩ := l3
    unfold shortC at h0
    by_cases hh : x.nm.length ≤ 40 ∧ (x.wh.length ≤ 4 ∨ x.wh.length = 9) ∧ (x.ky.length ≤ 4 ∨ x.ky.length = 9)
    ·have hd : headC x = true := decide_eq_true hh
     rw [hd, Bool.true_and] at h0
     generalize hA : x.wh.all shortT = A at h0
     generalize hB : x.ky.all shortK = B' at h0
     repeat' ((conv => whnf); first
     | refine Ya ?_ | refine Yb ?_ | refine Yc ?_ | refine Yd ?_ | refine Ye ?_ | refine Yf ?_ | refine Yg ?_ | refine Yh ?_ | refine Yi rfl ?_ | refine Yj rfl ?_ | refine Yk rfl ?_ | refine Yl rfl ?_
      | (refine PickW.rec Cls.cells_length k rfl hlt ?_; rw [hx])
      | (refine Cmp.mk (fun h => ?_) (fun h => ?_)) | (refine Rem.any (by omega) (fun r hr he => ?_)) | (refine Br.mk (fun h => ?_) (fun h => ?_))
      | (exfalso; omega))
     all_goals
      refine LoopW.to (LoopW.upP g (fun j => [(1, .ptr ⟨0, 1, 0⟩ 0 0), (3, I k), (4, .ptr ⟨0, 4, 0⟩ 0 0), (5, I j)]) (fun _ => _) (fun j => (x.wh.drop j).all shortT = A) x.wh.length (fun j hj h1 jh => ?_) 0 (Nat.zero_le _) hA) rfl rfl
      by_cases hjl : j < x.wh.length
      ·rw [List.drop_eq_getElem_cons hjl, List.all_cons] at h1
       have jh := jh hjl
       by_cases ht : x.wh[j].fa.length ≤ 40 ∧ x.wh[j].op.length ≤ 40
       ·have hd : shortT x.wh[j] = true := decide_eq_true ht
        rw [hd, Bool.true_and] at h1
        have jh := jh h1
        repeat' ((conv => whnf); first
        | refine Ya ?_ | refine Yb ?_ | refine Yc ?_ | refine Yd ?_ | refine Ye ?_ | refine Yf ?_ | refine Yg ?_ | refine Yh ?_ | refine Yi rfl ?_ | refine Yj rfl ?_ | refine Yk rfl ?_ | refine Yl rfl ?_
         | (refine Pick.rec Tst.cells_length j rfl hjl rfl ?_)
         | (refine LoopW.to jh rfl rfl))
       ·have hd : shortT x.wh[j] = false := decide_eq_false ht
        rw [hd, Bool.false_and] at h1
        rw [← h1, Bool.false_and, Bool.false_and] at h0
        rw [← h0]
        repeat' ((conv => whnf); first
        | refine Ya ?_ | refine Yb ?_ | refine Yc ?_ | refine Yd ?_ | refine Ye ?_ | refine Yf ?_ | refine Yg ?_ | refine Yh ?_ | refine Yi rfl ?_ | refine Yj rfl ?_ | refine Yk rfl ?_ | refine Yl rfl ?_
         | (refine Pick.rec Tst.cells_length j rfl hjl rfl ?_)
         | (refine Cmp.mk (fun h => ?_) (fun h => ?_)) | (refine Rem.any (by omega) (fun r hr he => ?_)) | (refine Br.mk (fun h => ?_) (fun h => ?_))
         | (refine Ret.mk rfl)
         | (exfalso; omega))
      ·rw [List.drop_eq_nil_of_le (by omega), List.all_nil] at h1
       rw [← h1, Bool.true_and] at h0
       repeat' ((conv => whnf); first
       | refine Ya ?_ | refine Yb ?_ | refine Yc ?_ | refine Yd ?_ | refine Ye ?_ | refine Yf ?_ | refine Yg ?_ | refine Yh ?_ | refine Yi rfl ?_ | refine Yj rfl ?_ | refine Yk rfl ?_ | refine Yl rfl ?_)
       refine LoopW.to (LoopW.upP g (fun i => [(1, .ptr ⟨0, 1, 0⟩ 0 0), (3, I k), (4, .ptr ⟨0, 4, 0⟩ 0 0), (6, I i)]) (fun _ => _) (fun i => (x.ky.drop i).all shortK = B') x.ky.length (fun i hi h2 ik => ?_) 0 (Nat.zero_le _) hB) rfl rfl
       by_cases hil : i < x.ky.length
       ·rw [List.drop_eq_getElem_cons hil, List.all_cons] at h2
        have ik := ik hil
        by_cases ht : x.ky[i].fa.length ≤ 40
        ·have hd : shortK x.ky[i] = true := decide_eq_true ht
         rw [hd, Bool.true_and] at h2
         have ik := ik h2
         repeat' ((conv => whnf); first
         | refine Ya ?_ | refine Yb ?_ | refine Yc ?_ | refine Yd ?_ | refine Ye ?_ | refine Yf ?_ | refine Yg ?_ | refine Yh ?_ | refine Yi rfl ?_ | refine Yj rfl ?_ | refine Yk rfl ?_ | refine Yl rfl ?_
          | (refine Pick.rec Kyt.cells_length i rfl hil rfl ?_)
          | (refine LoopW.to ik rfl rfl))
        ·have hd : shortK x.ky[i] = false := decide_eq_false ht
         rw [hd, Bool.false_and] at h2
         rw [← h2, Bool.false_and] at h0
         rw [← h0]
         repeat' ((conv => whnf); first
         | refine Ya ?_ | refine Yb ?_ | refine Yc ?_ | refine Yd ?_ | refine Ye ?_ | refine Yf ?_ | refine Yg ?_ | refine Yh ?_ | refine Yi rfl ?_ | refine Yj rfl ?_ | refine Yk rfl ?_ | refine Yl rfl ?_
          | (refine Pick.rec Kyt.cells_length i rfl hil rfl ?_)
          | (refine Ret.mk rfl))
       ·rw [List.drop_eq_nil_of_le (by omega), List.all_nil] at h2
        rw [← h2, Bool.true_and] at h0
        have ih := ih h0
        repeat' ((conv => whnf); first
        | refine Ya ?_ | refine Yb ?_ | refine Yc ?_ | refine Yd ?_ | refine Ye ?_ | refine Yf ?_ | refine Yg ?_ | refine Yh ?_ | refine Yi rfl ?_ | refine Yj rfl ?_ | refine Yk rfl ?_ | refine Yl rfl ?_
         | (refine LoopW.to ih rfl rfl))
    ·have hd : headC x = false := decide_eq_false hh
     rw [hd, Bool.false_and, Bool.false_and] at h0
     rw [← h0]
     repeat' ((conv => whnf); first
     | refine Ya ?_ | refine Yb ?_ | refine Yc ?_ | refine Yd ?_ | refine Ye ?_ | refine Yf ?_ | refine Yg ?_ | refine Yh ?_ | refine Yi rfl ?_ | refine Yj rfl ?_ | refine Yk rfl ?_ | refine Yl rfl ?_
      | (refine PickW.rec Cls.cells_length k rfl hlt ?_; rw [hx])
      | (refine Cmp.mk (fun h => ?_) (fun h => ?_)) | (refine Rem.any (by omega) (fun r hr he => ?_)) | (refine Br.mk (fun h => ?_) (fun h => ?_))
      | (refine Ret.mk rfl)
      | (exfalso; omega))
   ·rw [List.drop_eq_nil_of_le (by omega), List.all_nil] at h0
    rw [← h0]
    repeat' ((conv => whnf); first
    | refine Ya ?_ | refine Yb ?_ | refine Yc ?_ | refine Yd ?_ | refine Ye ?_ | refine Yf ?_ | refine Yg ?_ | refine Yh ?_ | refine Yi rfl ?_ | refine Yj rfl ?_ | refine Yk rfl ?_ | refine Yl rfl ?_
     | (refine Ret.mk rfl))
 ·rw [decide_eq_false hl, Bool.false_and]
  repeat' ((conv => whnf); first
  | refine Ya ?_ | refine Yb ?_ | refine Yc ?_ | refine Yd ?_ | refine Ye ?_ | refine Yf ?_ | refine Yg ?_ | refine Yh ?_ | refine Yi rfl ?_ | refine Yj rfl ?_ | refine Yk rfl ?_ | refine Yl rfl ?_
   | (refine Cmp.mk (fun h => ?_) (fun h => ?_)) | (refine Rem.any (by omega) (fun r hr he => ?_)) | (refine Br.mk (fun h => ?_) (fun h => ?_))
   | (refine Ret.mk rfl)
   | (exfalso; omega))
end
end Go.Proofs.YtlnlcdnpgjhaaaaGreatDoor.Co
/-
 Priority: programs as a law's parameters.
-/
namespace Go.Proofs.YtlnlcdnpgjhaaaaGreatDoor.Co
open Go Go.Evl
set_option maxRecDepth 100000
theorem fit_Tests {k : Nat} : ∀ (m : Nat) {ds : List D}, fitAll (fit Tryz.prog (k + 2)) (List.replicate m 73) ds → ∃ l : List Tst, ds = l.flatMap Tst.cells ∧ l.length = m
 | 0, ds, h => ⟨[], h, rfl⟩
 | m + 1, ds, h => by
  obtain ⟨a, b, rfl, h1, h2⟩ := h
  obtain ⟨x, rfl⟩ := fit_Test h1
  obtain ⟨l, rfl, h3⟩ := fit_Tests m h2
  exact ⟨x :: l, rfl, by simp [h3]⟩
theorem fit_Key {k : Nat} {ds : List D} (h : fit Tryz.prog (k + 2) 75 ds) : ∃ t : Kyt, ds = t.cells := by
 obtain ⟨_, _, rfl, h1, _, _, rfl, h2, rfl⟩ := fit_st Tryz.underlying75 h
 obtain ⟨s1, rfl⟩ := fit_str h1
 obtain ⟨b, rfl⟩ := fit_bo h2
 exact ⟨⟨s1, b⟩, rfl⟩
theorem fit_Keys {k : Nat} : ∀ (m : Nat) {ds : List D}, fitAll (fit Tryz.prog (k + 2)) (List.replicate m 75) ds → ∃ l : List Kyt, ds = l.flatMap Kyt.cells ∧ l.length = m
 | 0, ds, h => ⟨[], h, rfl⟩
 | m + 1, ds, h => by
  obtain ⟨a, b, rfl, h1, h2⟩ := h
  obtain ⟨x, rfl⟩ := fit_Key h1
  obtain ⟨l, rfl, h3⟩ := fit_Keys m h2
  exact ⟨x :: l, rfl, by simp [h3]⟩
theorem fit_Class {k : Nat} {ds : List D} (h : fit Tryz.prog (k + 4) 71 ds) : ∃ c : Cls, ds = c.cells ∧ c.wh.length ≤ 9223372036854775807 ∧ c.ky.length ≤ 9223372036854775807 := by
 obtain ⟨_, _, rfl, h1, _, _, rfl, h2, _, _, rfl, h3, rfl⟩ := fit_st Tryz.underlying71 h
 obtain ⟨s1, rfl⟩ := fit_str h1
 obtain ⟨m, cs, rfl, a1, h4⟩ := fit_l Tryz.underlying68 h2
 obtain ⟨n, es, rfl, a2, h5⟩ := fit_l Tryz.underlying69 h3
 obtain ⟨l, rfl, rfl⟩ := fit_Tests m h4
 obtain ⟨q, rfl, rfl⟩ := fit_Keys n h5
 exact ⟨⟨s1, l, q⟩, rfl, Nat.le_trans a1 (by decide), Nat.le_trans a2 (by decide)⟩
theorem fit_Classes {k : Nat} : ∀ (m : Nat) {ds : List D}, fitAll (fit Tryz.prog (k + 4)) (List.replicate m 71) ds → ∃ l : List Cls, ds = l.flatMap Cls.cells ∧ l.length = m ∧ ∀ c ∈ l, c.wh.length ≤ 9223372036854775807 ∧ c.ky.length ≤ 9223372036854775807
 | 0, ds, h => ⟨[], h, rfl, fun _ h => by cases h⟩
 | m + 1, ds, h => by
  obtain ⟨a, b, rfl, h1, h2⟩ := h
  obtain ⟨x, rfl, b1⟩ := fit_Class h1
  obtain ⟨l, rfl, h3, b2⟩ := fit_Classes m h2
  refine ⟨x :: l, rfl, by simp [h3], fun c hc => ?_⟩
  rcases List.mem_cons.1 hc with rfl | hc
  ·exact b1
  ·exact b2 c hc
theorem arg_Program {x : D} (h : fitArg Tryz.prog 24 x) : ∃ p : Prg, x = .agg p.cells ∧ BigP p := by
 obtain ⟨ds, rfl, _, _, rfl, h1, _, _, rfl, h2, _, _, rfl, h3, _, _, rfl, h4, rfl⟩ := arg_st Tryz.underlying24 h
 obtain ⟨m, cs, rfl, a1, h5⟩ := fit_l Tryz.underlying22 h1
 obtain ⟨l, rfl, rfl, b1⟩ := fit_Classes m h5
 obtain ⟨n1, rfl, _⟩ := fit_int h2
 obtain ⟨n2, rfl, _⟩ := fit_int h3
 obtain ⟨n3, rfl, _⟩ := fit_int h4
 exact ⟨⟨l, n1, n2, n3⟩, rfl, Nat.le_trans a1 (by decide), b1⟩
end Go.Proofs.YtlnlcdnpgjhaaaaGreatDoor.Co
/-
 The fixed example of chapter 5's laws comes out: each call computed by the kernel, then the walk through them.
-/
namespace Go.Proofs.YtlnlcdnpgjhaaaaGreatDoor.Co
open Go Go.Evl
section
variable {E : Oracle} (g : Good E)
include g
set_option maxRecDepth 100000
theorem ap1 : Fc E n_priority_Default [] (.d (.agg [.list 4 [.str [104, 105, 115, 116, 111, 114, 105, 99], .list 2 [.str [104, 105, 115, 116, 111, 114, 105, 99], .str [61], DI 1, .str [114, 101, 116, 105, 109, 101, 100], .str [61], DI 0], .list 2 [.str [100, 97, 121, 115], .bool true, .str [115, 101, 97, 116, 115], .bool true], .str [114, 101, 116, 105, 109, 101, 100], .list 1 [.str [104, 105, 115, 116, 111, 114, 105, 99], .str [61], DI 1], .list 2 [.str [100, 97, 121, 115], .bool true, .str [115, 101, 97, 116, 115], .bool true], .str [121, 101, 97, 114, 114, 111, 117, 110, 100], .list 1 [.str [121, 101, 97, 114, 114, 111, 117, 110, 100], .str [61], DI 1], .list 3 [.str [100, 97, 121, 115], .bool true, .str [115, 101, 97, 116, 115], .bool true, .str [100, 105, 115, 116, 97, 110, 99, 101], .bool true], .str [111, 116, 104, 101, 114, 115], .list 0 [], .list 3 [.str [100, 97, 121, 115], .bool true, .str [115, 101, 97, 116, 115], .bool true, .str [100, 105, 115, 116, 97, 110, 99, 101], .bool true]], DI 2, DI 2, DI 1])) := g.compR 1000 (by decide +kernel)
theorem ap2 : Fc E n_priority_Print [.d (.agg [.list 4 [.str [104, 105, 115, 116, 111, 114, 105, 99], .list 2 [.str [104, 105, 115, 116, 111, 114, 105, 99], .str [61], DI 1, .str [114, 101, 116, 105, 109, 101, 100], .str [61], DI 0], .list 2 [.str [100, 97, 121, 115], .bool true, .str [115, 101, 97, 116, 115], .bool true], .str [114, 101, 116, 105, 109, 101, 100], .list 1 [.str [104, 105, 115, 116, 111, 114, 105, 99], .str [61], DI 1], .list 2 [.str [100, 97, 121, 115], .bool true, .str [115, 101, 97, 116, 115], .bool true], .str [121, 101, 97, 114, 114, 111, 117, 110, 100], .list 1 [.str [121, 101, 97, 114, 114, 111, 117, 110, 100], .str [61], DI 1], .list 3 [.str [100, 97, 121, 115], .bool true, .str [115, 101, 97, 116, 115], .bool true, .str [100, 105, 115, 116, 97, 110, 99, 101], .bool true], .str [111, 116, 104, 101, 114, 115], .list 0 [], .list 3 [.str [100, 97, 121, 115], .bool true, .str [115, 101, 97, 116, 115], .bool true, .str [100, 105, 115, 116, 97, 110, 99, 101], .bool true]], DI 2, DI 2, DI 1])] (.tup [.d (.str [99, 108, 97, 115, 115, 32, 104, 105, 115, 116, 111, 114, 105, 99, 32, 119, 104, 101, 110, 32, 104, 105, 115, 116, 111, 114, 105, 99, 61, 49, 32, 114, 101, 116, 105, 109, 101, 100, 61, 48, 32, 98, 121, 32, 100, 97, 121, 115, 45, 32, 115, 101, 97, 116, 115, 45, 10, 99, 108, 97, 115, 115, 32, 114, 101, 116, 105, 109, 101, 100, 32, 119, 104, 101, 110, 32, 104, 105, 115, 116, 111, 114, 105, 99, 61, 49, 32, 98, 121, 32, 100, 97, 121, 115, 45, 32, 115, 101, 97, 116, 115, 45, 10, 99, 108, 97, 115, 115, 32, 121, 101, 97, 114, 114, 111, 117, 110, 100, 32, 119, 104, 101, 110, 32, 121, 101, 97, 114, 114, 111, 117, 110, 100, 61, 49, 32, 98, 121, 32, 100, 97, 121, 115, 45, 32, 115, 101, 97, 116, 115, 45, 32, 100, 105, 115, 116, 97, 110, 99, 101, 45, 10, 99, 108, 97, 115, 115, 32, 111, 116, 104, 101, 114, 115, 32, 98, 121, 32, 100, 97, 121, 115, 45, 32, 115, 101, 97, 116, 115, 45, 32, 100, 105, 115, 116, 97, 110, 99, 101, 45, 10, 112, 111, 111, 108, 32, 50, 32, 115, 104, 97, 114, 101, 32, 49, 32, 111, 102, 32, 50, 10]), .d (DI 0)]) := g.compR 1000 (by decide +kernel)
theorem ap3 : Fc E n_priority_Parse [S [99, 108, 97, 115, 115, 32, 104, 105, 115, 116, 111, 114, 105, 99, 32, 119, 104, 101, 110, 32, 104, 105, 115, 116, 111, 114, 105, 99, 61, 49, 32, 114, 101, 116, 105, 109, 101, 100, 61, 48, 32, 98, 121, 32, 100, 97, 121, 115, 45, 32, 115, 101, 97, 116, 115, 45, 10, 99, 108, 97, 115, 115, 32, 114, 101, 116, 105, 109, 101, 100, 32, 119, 104, 101, 110, 32, 104, 105, 115, 116, 111, 114, 105, 99, 61, 49, 32, 98, 121, 32, 100, 97, 121, 115, 45, 32, 115, 101, 97, 116, 115, 45, 10, 99, 108, 97, 115, 115, 32, 121, 101, 97, 114, 114, 111, 117, 110, 100, 32, 119, 104, 101, 110, 32, 121, 101, 97, 114, 114, 111, 117, 110, 100, 61, 49, 32, 98, 121, 32, 100, 97, 121, 115, 45, 32, 115, 101, 97, 116, 115, 45, 32, 100, 105, 115, 116, 97, 110, 99, 101, 45, 10, 99, 108, 97, 115, 115, 32, 111, 116, 104, 101, 114, 115, 32, 98, 121, 32, 100, 97, 121, 115, 45, 32, 115, 101, 97, 116, 115, 45, 32, 100, 105, 115, 116, 97, 110, 99, 101, 45, 10, 112, 111, 111, 108, 32, 50, 32, 115, 104, 97, 114, 101, 32, 49, 32, 111, 102, 32, 50, 10]] (.tup [.d (.agg [.list 4 [.str [104, 105, 115, 116, 111, 114, 105, 99], .list 2 [.str [104, 105, 115, 116, 111, 114, 105, 99], .str [61], DI 1, .str [114, 101, 116, 105, 109, 101, 100], .str [61], DI 0], .list 2 [.str [100, 97, 121, 115], .bool true, .str [115, 101, 97, 116, 115], .bool true], .str [114, 101, 116, 105, 109, 101, 100], .list 1 [.str [104, 105, 115, 116, 111, 114, 105, 99], .str [61], DI 1], .list 2 [.str [100, 97, 121, 115], .bool true, .str [115, 101, 97, 116, 115], .bool true], .str [121, 101, 97, 114, 114, 111, 117, 110, 100], .list 1 [.str [121, 101, 97, 114, 114, 111, 117, 110, 100], .str [61], DI 1], .list 3 [.str [100, 97, 121, 115], .bool true, .str [115, 101, 97, 116, 115], .bool true, .str [100, 105, 115, 116, 97, 110, 99, 101], .bool true], .str [111, 116, 104, 101, 114, 115], .list 0 [], .list 3 [.str [100, 97, 121, 115], .bool true, .str [115, 101, 97, 116, 115], .bool true, .str [100, 105, 115, 116, 97, 110, 99, 101], .bool true]], DI 2, DI 2, DI 1]), .d (DI 0), .d (DI 0)]) := g.compR 1000 (by decide +kernel)
theorem ap4 : Fc E n_law05_sample [S [104], I 90] (.d (.agg [.str [104], .str [97, 98], .str [65], .str [], .str [102, 97, 114], .str [], DI 8900, DI 8920, DI 5, DI 600, DI 90, DI 4, DI 0, .bool false, .bool false, .bool false, .bool false, DI 0])) := g.compR 1000 (by decide +kernel)
theorem ap5 : Fc E n_law05_sample [S [99], I 180] (.d (.agg [.str [99], .str [97, 98], .str [65], .str [], .str [102, 97, 114], .str [], DI 8900, DI 8920, DI 5, DI 600, DI 180, DI 4, DI 0, .bool false, .bool false, .bool false, .bool false, DI 0])) := g.compR 1000 (by decide +kernel)
theorem ap6 : Fc E n_law05_sample [S [100], I 150] (.d (.agg [.str [100], .str [97, 98], .str [65], .str [], .str [102, 97, 114], .str [], DI 8900, DI 8920, DI 5, DI 600, DI 150, DI 4, DI 0, .bool false, .bool false, .bool false, .bool false, DI 0])) := g.compR 1000 (by decide +kernel)
theorem ap7 : Fc E n_law05_sample [S [98], I 100] (.d (.agg [.str [98], .str [97, 98], .str [65], .str [], .str [102, 97, 114], .str [], DI 8900, DI 8920, DI 5, DI 600, DI 100, DI 4, DI 0, .bool false, .bool false, .bool false, .bool false, DI 0])) := g.compR 1000 (by decide +kernel)
theorem ap8 : Fc E n_law05_sample [S [101], I 90] (.d (.agg [.str [101], .str [97, 98], .str [65], .str [], .str [102, 97, 114], .str [], DI 8900, DI 8920, DI 5, DI 600, DI 90, DI 4, DI 0, .bool false, .bool false, .bool false, .bool false, DI 0])) := g.compR 1000 (by decide +kernel)
theorem ap9 : Fc E n_priority_ClassOf [.d (.agg [.list 4 [.str [104, 105, 115, 116, 111, 114, 105, 99], .list 2 [.str [104, 105, 115, 116, 111, 114, 105, 99], .str [61], DI 1, .str [114, 101, 116, 105, 109, 101, 100], .str [61], DI 0], .list 2 [.str [100, 97, 121, 115], .bool true, .str [115, 101, 97, 116, 115], .bool true], .str [114, 101, 116, 105, 109, 101, 100], .list 1 [.str [104, 105, 115, 116, 111, 114, 105, 99], .str [61], DI 1], .list 2 [.str [100, 97, 121, 115], .bool true, .str [115, 101, 97, 116, 115], .bool true], .str [121, 101, 97, 114, 114, 111, 117, 110, 100], .list 1 [.str [121, 101, 97, 114, 114, 111, 117, 110, 100], .str [61], DI 1], .list 3 [.str [100, 97, 121, 115], .bool true, .str [115, 101, 97, 116, 115], .bool true, .str [100, 105, 115, 116, 97, 110, 99, 101], .bool true], .str [111, 116, 104, 101, 114, 115], .list 0 [], .list 3 [.str [100, 97, 121, 115], .bool true, .str [115, 101, 97, 116, 115], .bool true, .str [100, 105, 115, 116, 97, 110, 99, 101], .bool true]], DI 2, DI 2, DI 1]), .d (.agg [.str [104], .str [97, 98], .str [65], .str [], .str [102, 97, 114], .str [], DI 8900, DI 8920, DI 5, DI 600, DI 90, DI 4, DI 0, .bool true, .bool true, .bool false, .bool false, DI 0])] (.tup [.d (DI 1), .d (DI 0)]) := g.compR 1000 (by decide +kernel)
theorem ap10 : Fc E n_priority_ClassOf [.d (.agg [.list 4 [.str [104, 105, 115, 116, 111, 114, 105, 99], .list 2 [.str [104, 105, 115, 116, 111, 114, 105, 99], .str [61], DI 1, .str [114, 101, 116, 105, 109, 101, 100], .str [61], DI 0], .list 2 [.str [100, 97, 121, 115], .bool true, .str [115, 101, 97, 116, 115], .bool true], .str [114, 101, 116, 105, 109, 101, 100], .list 1 [.str [104, 105, 115, 116, 111, 114, 105, 99], .str [61], DI 1], .list 2 [.str [100, 97, 121, 115], .bool true, .str [115, 101, 97, 116, 115], .bool true], .str [121, 101, 97, 114, 114, 111, 117, 110, 100], .list 1 [.str [121, 101, 97, 114, 114, 111, 117, 110, 100], .str [61], DI 1], .list 3 [.str [100, 97, 121, 115], .bool true, .str [115, 101, 97, 116, 115], .bool true, .str [100, 105, 115, 116, 97, 110, 99, 101], .bool true], .str [111, 116, 104, 101, 114, 115], .list 0 [], .list 3 [.str [100, 97, 121, 115], .bool true, .str [115, 101, 97, 116, 115], .bool true, .str [100, 105, 115, 116, 97, 110, 99, 101], .bool true]], DI 2, DI 2, DI 1]), .d (.agg [.str [99], .str [97, 98], .str [65], .str [], .str [102, 97, 114], .str [], DI 8900, DI 8920, DI 5, DI 600, DI 180, DI 4, DI 0, .bool false, .bool false, .bool false, .bool false, DI 0])] (.tup [.d (DI 3), .d (DI 0)]) := g.compR 1000 (by decide +kernel)
theorem ap11 : Fc E n_priority_Rank [.d (.agg [.list 4 [.str [104, 105, 115, 116, 111, 114, 105, 99], .list 2 [.str [104, 105, 115, 116, 111, 114, 105, 99], .str [61], DI 1, .str [114, 101, 116, 105, 109, 101, 100], .str [61], DI 0], .list 2 [.str [100, 97, 121, 115], .bool true, .str [115, 101, 97, 116, 115], .bool true], .str [114, 101, 116, 105, 109, 101, 100], .list 1 [.str [104, 105, 115, 116, 111, 114, 105, 99], .str [61], DI 1], .list 2 [.str [100, 97, 121, 115], .bool true, .str [115, 101, 97, 116, 115], .bool true], .str [121, 101, 97, 114, 114, 111, 117, 110, 100], .list 1 [.str [121, 101, 97, 114, 114, 111, 117, 110, 100], .str [61], DI 1], .list 3 [.str [100, 97, 121, 115], .bool true, .str [115, 101, 97, 116, 115], .bool true, .str [100, 105, 115, 116, 97, 110, 99, 101], .bool true], .str [111, 116, 104, 101, 114, 115], .list 0 [], .list 3 [.str [100, 97, 121, 115], .bool true, .str [115, 101, 97, 116, 115], .bool true, .str [100, 105, 115, 116, 97, 110, 99, 101], .bool true]], DI 2, DI 2, DI 1]), I 5, .d (.list 5 [.str [104], .str [97, 98], .str [65], .str [], .str [102, 97, 114], .str [], DI 8900, DI 8920, DI 5, DI 600, DI 90, DI 4, DI 0, .bool true, .bool false, .bool false, .bool false, DI 0, .str [99], .str [97, 98], .str [65], .str [], .str [102, 97, 114], .str [], DI 8900, DI 8920, DI 5, DI 600, DI 180, DI 4, DI 0, .bool false, .bool false, .bool false, .bool false, DI 0, .str [100], .str [97, 98], .str [65], .str [], .str [102, 97, 114], .str [], DI 8900, DI 8920, DI 5, DI 600, DI 150, DI 4, DI 0, .bool false, .bool false, .bool true, .bool false, DI 0, .str [98], .str [97, 98], .str [65], .str [], .str [102, 97, 114], .str [], DI 8900, DI 8920, DI 5, DI 600, DI 100, DI 4, DI 0, .bool false, .bool false, .bool true, .bool false, DI 0, .str [101], .str [97, 98], .str [65], .str [], .str [102, 97, 114], .str [], DI 8900, DI 8920, DI 5, DI 600, DI 90, DI 4, DI 0, .bool false, .bool false, .bool false, .bool false, DI 0])] (.tup [.d (.list 5 [DI 0, DI 2, DI 1, DI 3, DI 4]), .d (DI 0)]) := g.compR 1000 (by decide +kernel)
theorem ap12 : Fc E n_priority_Why [.d (.agg [.list 4 [.str [104, 105, 115, 116, 111, 114, 105, 99], .list 2 [.str [104, 105, 115, 116, 111, 114, 105, 99], .str [61], DI 1, .str [114, 101, 116, 105, 109, 101, 100], .str [61], DI 0], .list 2 [.str [100, 97, 121, 115], .bool true, .str [115, 101, 97, 116, 115], .bool true], .str [114, 101, 116, 105, 109, 101, 100], .list 1 [.str [104, 105, 115, 116, 111, 114, 105, 99], .str [61], DI 1], .list 2 [.str [100, 97, 121, 115], .bool true, .str [115, 101, 97, 116, 115], .bool true], .str [121, 101, 97, 114, 114, 111, 117, 110, 100], .list 1 [.str [121, 101, 97, 114, 114, 111, 117, 110, 100], .str [61], DI 1], .list 3 [.str [100, 97, 121, 115], .bool true, .str [115, 101, 97, 116, 115], .bool true, .str [100, 105, 115, 116, 97, 110, 99, 101], .bool true], .str [111, 116, 104, 101, 114, 115], .list 0 [], .list 3 [.str [100, 97, 121, 115], .bool true, .str [115, 101, 97, 116, 115], .bool true, .str [100, 105, 115, 116, 97, 110, 99, 101], .bool true]], DI 2, DI 2, DI 1]), I 5, .d (.list 5 [.str [104], .str [97, 98], .str [65], .str [], .str [102, 97, 114], .str [], DI 8900, DI 8920, DI 5, DI 600, DI 90, DI 4, DI 0, .bool true, .bool false, .bool false, .bool false, DI 0, .str [99], .str [97, 98], .str [65], .str [], .str [102, 97, 114], .str [], DI 8900, DI 8920, DI 5, DI 600, DI 180, DI 4, DI 0, .bool false, .bool false, .bool false, .bool false, DI 0, .str [100], .str [97, 98], .str [65], .str [], .str [102, 97, 114], .str [], DI 8900, DI 8920, DI 5, DI 600, DI 150, DI 4, DI 0, .bool false, .bool false, .bool true, .bool false, DI 0, .str [98], .str [97, 98], .str [65], .str [], .str [102, 97, 114], .str [], DI 8900, DI 8920, DI 5, DI 600, DI 100, DI 4, DI 0, .bool false, .bool false, .bool true, .bool false, DI 0, .str [101], .str [97, 98], .str [65], .str [], .str [102, 97, 114], .str [], DI 8900, DI 8920, DI 5, DI 600, DI 90, DI 4, DI 0, .bool false, .bool false, .bool false, .bool false, DI 0])] (.tup [.d (.list 4 [.str [99, 108, 97, 115, 115], .str [115, 104, 97, 114, 101], .str [115, 101, 97, 116, 115], .str [115, 101, 97, 116, 115]]), .d (DI 0)]) := g.compR 1000 (by decide +kernel)
theorem ap13 : Fc E n_law05_own [.d (.agg [.list 4 [.str [104, 105, 115, 116, 111, 114, 105, 99], .list 2 [.str [104, 105, 115, 116, 111, 114, 105, 99], .str [61], DI 1, .str [114, 101, 116, 105, 109, 101, 100], .str [61], DI 0], .list 2 [.str [100, 97, 121, 115], .bool true, .str [115, 101, 97, 116, 115], .bool true], .str [114, 101, 116, 105, 109, 101, 100], .list 1 [.str [104, 105, 115, 116, 111, 114, 105, 99], .str [61], DI 1], .list 2 [.str [100, 97, 121, 115], .bool true, .str [115, 101, 97, 116, 115], .bool true], .str [121, 101, 97, 114, 114, 111, 117, 110, 100], .list 1 [.str [121, 101, 97, 114, 114, 111, 117, 110, 100], .str [61], DI 1], .list 3 [.str [100, 97, 121, 115], .bool true, .str [115, 101, 97, 116, 115], .bool true, .str [100, 105, 115, 116, 97, 110, 99, 101], .bool true], .str [111, 116, 104, 101, 114, 115], .list 0 [], .list 3 [.str [100, 97, 121, 115], .bool true, .str [115, 101, 97, 116, 115], .bool true, .str [100, 105, 115, 116, 97, 110, 99, 101], .bool true]], DI 2, DI 2, DI 1])] (.d (.agg [.list 4 [.str [104, 105, 115, 116, 111, 114, 105, 99], .list 2 [.str [104, 105, 115, 116, 111, 114, 105, 99], .str [61], DI 1, .str [114, 101, 116, 105, 109, 101, 100], .str [61], DI 0], .list 2 [.str [100, 97, 121, 115], .bool true, .str [115, 101, 97, 116, 115], .bool true], .str [114, 101, 116, 105, 109, 101, 100], .list 1 [.str [104, 105, 115, 116, 111, 114, 105, 99], .str [61], DI 1], .list 2 [.str [100, 97, 121, 115], .bool true, .str [115, 101, 97, 116, 115], .bool true], .str [121, 101, 97, 114, 114, 111, 117, 110, 100], .list 1 [.str [121, 101, 97, 114, 114, 111, 117, 110, 100], .str [61], DI 1], .list 3 [.str [100, 97, 121, 115], .bool true, .str [115, 101, 97, 116, 115], .bool true, .str [100, 105, 115, 116, 97, 110, 99, 101], .bool true], .str [111, 116, 104, 101, 114, 115], .list 0 [], .list 3 [.str [100, 97, 121, 115], .bool true, .str [115, 101, 97, 116, 115], .bool true, .str [100, 105, 115, 116, 97, 110, 99, 101], .bool true]], DI 2, DI 2, DI 1])) := g.compR 1000 (by decide +kernel)
theorem ap14 : Fc E n_ref05_Same [.d (.agg [.list 4 [.str [104, 105, 115, 116, 111, 114, 105, 99], .list 2 [.str [104, 105, 115, 116, 111, 114, 105, 99], .str [61], DI 1, .str [114, 101, 116, 105, 109, 101, 100], .str [61], DI 0], .list 2 [.str [100, 97, 121, 115], .bool true, .str [115, 101, 97, 116, 115], .bool true], .str [114, 101, 116, 105, 109, 101, 100], .list 1 [.str [104, 105, 115, 116, 111, 114, 105, 99], .str [61], DI 1], .list 2 [.str [100, 97, 121, 115], .bool true, .str [115, 101, 97, 116, 115], .bool true], .str [121, 101, 97, 114, 114, 111, 117, 110, 100], .list 1 [.str [121, 101, 97, 114, 114, 111, 117, 110, 100], .str [61], DI 1], .list 3 [.str [100, 97, 121, 115], .bool true, .str [115, 101, 97, 116, 115], .bool true, .str [100, 105, 115, 116, 97, 110, 99, 101], .bool true], .str [111, 116, 104, 101, 114, 115], .list 0 [], .list 3 [.str [100, 97, 121, 115], .bool true, .str [115, 101, 97, 116, 115], .bool true, .str [100, 105, 115, 116, 97, 110, 99, 101], .bool true]], DI 2, DI 2, DI 1]), .d (.agg [.list 4 [.str [104, 105, 115, 116, 111, 114, 105, 99], .list 2 [.str [104, 105, 115, 116, 111, 114, 105, 99], .str [61], DI 1, .str [114, 101, 116, 105, 109, 101, 100], .str [61], DI 0], .list 2 [.str [100, 97, 121, 115], .bool true, .str [115, 101, 97, 116, 115], .bool true], .str [114, 101, 116, 105, 109, 101, 100], .list 1 [.str [104, 105, 115, 116, 111, 114, 105, 99], .str [61], DI 1], .list 2 [.str [100, 97, 121, 115], .bool true, .str [115, 101, 97, 116, 115], .bool true], .str [121, 101, 97, 114, 114, 111, 117, 110, 100], .list 1 [.str [121, 101, 97, 114, 114, 111, 117, 110, 100], .str [61], DI 1], .list 3 [.str [100, 97, 121, 115], .bool true, .str [115, 101, 97, 116, 115], .bool true, .str [100, 105, 115, 116, 97, 110, 99, 101], .bool true], .str [111, 116, 104, 101, 114, 115], .list 0 [], .list 3 [.str [100, 97, 121, 115], .bool true, .str [115, 101, 97, 116, 115], .bool true, .str [100, 105, 115, 116, 97, 110, 99, 101], .bool true]], DI 2, DI 2, DI 1])] (B true) := g.compR 1000 (by decide +kernel)
theorem ap15 : Fc E n_ref01_SameInts [.d (.list 5 [DI 0, DI 2, DI 1, DI 3, DI 4]), .d (.list 5 [DI 0, DI 2, DI 1, DI 3, DI 4])] (B true) := g.compR 1000 (by decide +kernel)
theorem ap16 : Fc E n_ref01_SameWords [.d (.list 4 [.str [99, 108, 97, 115, 115], .str [115, 104, 97, 114, 101], .str [115, 101, 97, 116, 115], .str [115, 101, 97, 116, 115]]), .d (.list 4 [.str [99, 108, 97, 115, 115], .str [115, 104, 97, 114, 101], .str [115, 101, 97, 116, 115], .str [115, 101, 97, 116, 115]])] (B true) := g.compR 1000 (by decide +kernel)
theorem ap17 : Fc E n_priority_Interleave [I 3, I 2, .d (.list 5 [.bool false, .bool true, .bool false, .bool true, .bool true])] (.tup [.d (.list 5 [DI 1, DI 3, DI 0, DI 4, DI 2]), .d (DI 0)]) := g.compR 1000 (by decide +kernel)
theorem ap18 : Fc E n_law05_sample [S [120], I 1] (.d (.agg [.str [120], .str [97, 98], .str [65], .str [], .str [102, 97, 114], .str [], DI 8900, DI 8920, DI 5, DI 600, DI 1, DI 4, DI 0, .bool false, .bool false, .bool false, .bool false, DI 0])) := g.compR 1000 (by decide +kernel)
theorem ap19 : Fc E n_law05_sample [S [121], I 1] (.d (.agg [.str [121], .str [97, 98], .str [65], .str [], .str [102, 97, 114], .str [], DI 8900, DI 8920, DI 5, DI 600, DI 1, DI 4, DI 0, .bool false, .bool false, .bool false, .bool false, DI 0])) := g.compR 1000 (by decide +kernel)
theorem ap20 : Fc E n_priority_Lots [I 2, .d (.list 2 [.str [120], .str [97, 98], .str [65], .str [], .str [102, 97, 114], .str [], DI 8900, DI 8920, DI 5, DI 600, DI 1, DI 4, DI 0, .bool false, .bool false, .bool false, .bool false, DI 0, .str [121], .str [97, 98], .str [65], .str [], .str [102, 97, 114], .str [], DI 8900, DI 8920, DI 5, DI 600, DI 1, DI 4, DI 0, .bool false, .bool false, .bool false, .bool false, DI 0])] (.tup [.d (.list 2 [DI 1, DI 0]), .d (DI 0)]) := g.compR 1000 (by decide +kernel)
theorem ap21 : Fc E n_priority_Parse [S [99, 108, 97, 115, 115, 32, 97, 32, 98, 121, 32, 115, 101, 97, 116, 115, 10]] (.tup [.d (.agg [.list 0 [], DI 0, DI 0, DI 0]), .d (DI 0), .d (DI 25)]) := g.compR 1000 (by decide +kernel)
theorem ap22 : Fc E n_priority_Parse [S [99, 108, 97, 115, 115, 32, 97, 32, 98, 121, 32, 115, 101, 97, 116, 115, 45, 10]] (.tup [.d (.agg [.list 0 [], DI 0, DI 0, DI 0]), .d (DI 1), .d (DI 28)]) := g.compR 1000 (by decide +kernel)
theorem ap23 : Fc E n_priority_Fact [.d (.agg [.str [99], .str [97, 98], .str [65], .str [], .str [102, 97, 114], .str [], DI 8900, DI 8920, DI 5, DI 600, DI 180, DI 4, DI 0, .bool false, .bool false, .bool false, .bool false, DI 0]), S [100, 97, 121, 115]] (.tup [.d (DI 6), .d (DI 0)]) := g.compR 1000 (by decide +kernel)
theorem ap24 : Fc E n_priority_Newcomer [S [97, 98], I 8900, .d (.list 0 [])] (.tup [.d (.bool true), .d (DI 0)]) := g.compR 1000 (by decide +kernel)
theorem ap25 : Fc E n_ref01_SameInts [.d (.list 5 [DI 1, DI 3, DI 0, DI 4, DI 2]), .d (.list 5 [DI 1, DI 3, DI 0, DI 4, DI 2])] (B true) := g.compR 1000 (by decide +kernel)
theorem ap26 : Fc E n_ref01_SameInts [.d (.list 2 [DI 1, DI 0]), .d (.list 2 [DI 1, DI 0])] (B true) := g.compR 1000 (by decide +kernel)
theorem ap27 : Fc E n_ref01_DaysOf [.d (.agg [DI 8900, DI 8920, DI 5])] (.d (.list 6 [DI 8901, DI 8906, DI 8908, DI 8913, DI 8915, DI 8920])) := g.compR 1000 (by decide +kernel)
set_option maxHeartbeats 4000000 in
theorem s_awake : Fc E n_law05_awake [] (B true) := by
 refine g.fn code_law05_awake rfl ?_
 repeat' ((conv => whnf); first
 | refine Ya ?_ | refine Yb ?_ | refine Yc ?_ | refine Yd ?_ | refine Ye ?_ | refine Yf ?_ | refine Yg ?_ | refine Yh ?_ | refine Yi rfl ?_ | refine Yj rfl ?_ | refine Yk rfl ?_ | refine Yl rfl ?_
  | (apply CallI.of; first | exact ap1 g | exact ap2 g | exact ap3 g | exact ap4 g | exact ap5 g | exact ap6 g | exact ap7 g | exact ap8 g | exact ap9 g | exact ap10 g | exact ap11 g | exact ap12 g | exact ap13 g | exact ap14 g | exact ap15 g | exact ap16 g | exact ap17 g | exact ap18 g | exact ap19 g | exact ap20 g | exact ap21 g | exact ap22 g | exact ap23 g | exact ap24 g | exact ap25 g | exact ap26 g | exact ap27 g)
  | (refine Need.mk (by simp only [maxStr, List.length_cons, List.length_nil, List.length_append]; omega) ?_)
  | (exact Ret.mk rfl))
end
end Go.Proofs.YtlnlcdnpgjhaaaaGreatDoor.Co
/-
 PriorityOrders returns true, for every program, list of claims and key.
-/
namespace Go.Proofs.YtlnlcdnpgjhaaaaGreatDoor.Co
open Go Go.Evl
set_option maxRecDepth 100000
abbrev bakR (l : List Clm) (k : Nat) : Ob := .row false ty_turnroundref05_Claim 18 k ((l.take k).reverse.flatMap Clm.cells)
theorem bak_succ {l : List Clm} {k : Nat} (h : k < l.length) : (l.take (k + 1)).reverse.flatMap Clm.cells = l[k].cells ++ (l.take k).reverse.flatMap Clm.cells := by
 rw [List.take_add_one, List.getElem?_eq_getElem h, Option.toList_some, List.reverse_append, List.flatMap_append]
 simp
theorem bak_len (l : List Clm) {k : Nat} (h : k ≤ l.length) : ((l.take k).reverse.flatMap Clm.cells).length = k * 18 := by
 rw [flatR_length Clm.cells 18 Clm.cells_length, List.length_reverse, List.length_take, Nat.min_eq_left h]
abbrev orM (p : Prg) (R : List Int) : Mem := [(⟨0, 3, 0⟩, .cells ty_turnroundref05_Program [LC p.cl, I p.po, I p.of, I p.fo]), (⟨0, 112, 0⟩, .row false ty_int 1 (0 + R.length) ([] ++ R.map DI)), (⟨0, 12, 0⟩, .row false ty_turnroundref05_Claim 18 0 [])]
theorem Mf {A B : Prop} : (b : Bool) → b = false → B → (match b with | true => A | false => B)
 | false, _, k => k
 | true, h, _ => Bool.noConfusion h
theorem Mt {A B : Prop} : (b : Bool) → b = true → A → (match b with | true => A | false => B)
 | true, _, k => k
 | false, h, _ => Bool.noConfusion h
theorem mI1 {a b : Nat} (h : Nat.beq a b = false) : memI [⟨0, 3, 0⟩, ⟨0, 125, a⟩] ⟨0, 125, b⟩ = false := by
 simp [memI, idB, h]
theorem mI3 (a : Nat) : memI [⟨0, 3, 0⟩, ⟨0, 112, 0⟩, ⟨0, 12, 0⟩, ⟨0, 125, a⟩] ⟨0, 125, a⟩ = true := by
 simp [memI, idB]
theorem mI2 (a : Nat) : memI [⟨0, 3, 0⟩, ⟨0, 125, a⟩] ⟨0, 125, a⟩ = true := by
 simp [memI, idB]
theorem Pick.bak {l : List Clm} {m : Nat} (hm : l.length = m + 1) {a : Nat} (ha : a < l.length) {x : Int} {K : D → Prop} (hx : x = rv l.length a) (hk : K (.str l[a].rq.nm)) : Pick ((l.take (m + 1)).reverse.flatMap Clm.cells) ((0 + x.toNat) * 18 + 0 + 0) K := by
 have hi : x = ((l.length - 1 - a : Nat) : Int) := by rw [hx]; unfold rv; omega
 rw [← hm, List.take_length]
 rw [Nat.zero_add]
 refine Pick.rec00 (d := .str l[a].rq.nm) Clm.cells_length (l.length - 1 - a) hi (by rw [List.length_reverse]; omega) ?_ hk
 have : l.reverse[l.length - 1 - a]'(by rw [List.length_reverse]; omega) = l[a] := by
  rw [List.getElem_reverse]
  congr 1
  omega
 rw [this]
 rfl
abbrev odM (p : Prg) (R : List Int) (l : List Clm) (m : Nat) : Mem := orM p R ++ [(⟨0, 125, m⟩, bakR l (m + 1))]
abbrev oxM (p : Prg) (R : List Int) (l : List Clm) (m : Nat) (o : List Int) : Mem := [(⟨0, 3, 0⟩, .cells ty_turnroundref05_Program [LC p.cl, I p.po, I p.of, I p.fo]), (⟨0, 112, 0⟩, .row false ty_int 1 (0 + R.length) ([] ++ R.map DI)), (⟨0, 12, 0⟩, .row false ty_turnroundref05_Claim 18 0 []), (⟨0, 125, m⟩, bakR l (m + 1)), (⟨0, 205, 0⟩, .row true ty_int 1 (0 + R.length) (o.map DI))]
theorem patch_swp {R : List Int} {j : Nat} {a b : Int} (h : j + 1 < R.length) (ha : R[j + 1] = a) (hb : R[j] = b) : patch (patch ([] ++ R.map DI) ((0 + (((j + 1 : Nat) : Int) - 1).toNat) * 1) [DI a]) ((0 + ((j + 1 : Nat) : Int).toNat) * 1) [DI b] = (swpN R j).map DI := by
 have e1 : (0 + (((j + 1 : Nat) : Int) - 1).toNat) * 1 = j := by omega
 have e2 : (0 + ((j + 1 : Nat) : Int).toNat) * 1 = j + 1 := by omega
 have g1 : R.getD (j + 1) 0 = a := by simp [List.getD, h, ha]
 have g2 : R.getD j 0 = b := by
  have : j < R.length := by omega
  simp [List.getD, this, hb]
 rw [e1, e2, List.nil_append, patch_set R j a (by omega), patch_set _ (j + 1) b (by rw [List.length_set]; exact h)]
 unfold swpN
 rw [g1, g2]
section
variable {E : Oracle} (g : Good E)
include g
theorem in_EqR (p : Prg) (R : List Int) (l : List Clm) (m : Nat) (o : List Int) (hR : R.length ≤ 1000) (hol : o.length = R.length) (ho : o ≠ R) {K : V → Mem → Prop} (hK : K (B false) (oxM p R l m o ++ [(⟨1, 4, 0⟩, .cells ty_priority_Program [LC p.cl, I p.po, I p.of, I p.fo])])) :
  In E 2 n_slices_Equal_Lint_int [.ref ⟨0, 205, 0⟩ 0 (0 + R.length) (0 + R.length), LI R] (oxM p R l m o ++ [(⟨1, 4, 0⟩, .cells ty_priority_Program [LC p.cl, I p.po, I p.of, I p.fo])]) K := by
 refine In.enter g.lim rfl code_slices_Equal_Lint_int ?_
 repeat' ((conv => whnf); first
 | refine Ya ?_ | refine Yb ?_ | refine Yc ?_ | refine Yd ?_ | refine Ye ?_ | refine Yf ?_ | refine Yg ?_ | refine Yh ?_ | refine Yi rfl ?_ | refine Yj rfl ?_ | refine Yk rfl ?_ | refine Yl rfl ?_
  | (refine Mt _ (by simp [memI, idB]) ?_))
 refine LoopW.to (LoopW.upP g (fun k => [(0, .ref ⟨0, 205, 0⟩ 0 (0 + R.length) (0 + R.length)), (1, LI R), (12, I (0 + R.length : Nat)), (13, I k)]) (fun _ => _) (fun k => o.take k = R.take k) R.length (fun k hk hp ih => ?_) 0 (Nat.zero_le _) (by simp)) rfl rfl
 by_cases hlt : k < R.length
 ·have hlb : k < o.length := by omega
  by_cases he : o[k] = R[k]
  ·have ih := ih hlt (by rw [List.take_add_one, List.take_add_one, hp, List.getElem?_eq_getElem hlt, List.getElem?_eq_getElem hlb, he])
   repeat' ((conv => whnf); first
   | refine Ya ?_ | refine Yb ?_ | refine Yc ?_ | refine Yd ?_ | refine Ye ?_ | refine Yf ?_ | refine Yg ?_ | refine Yh ?_ | refine Yi rfl ?_ | refine Yj rfl ?_ | refine Yk rfl ?_ | refine Yl rfl ?_
    | (refine Mt _ (by simp [memI, idB]) ?_)
    | (refine Pick.intI k rfl hlt ?_)
    | (refine Pick.intI0 k rfl hlb ?_)
    | (refine LoopW.to ih rfl rfl))
  ·repeat' ((conv => whnf); first
  | refine Ya ?_ | refine Yb ?_ | refine Yc ?_ | refine Yd ?_ | refine Ye ?_ | refine Yf ?_ | refine Yg ?_ | refine Yh ?_ | refine Yi rfl ?_ | refine Yj rfl ?_ | refine Yk rfl ?_ | refine Yl rfl ?_
    | (refine Mt _ (by simp [memI, idB]) ?_)
    | (refine Pick.intI k rfl hlt ?_)
    | (refine Pick.intI0 k rfl hlb ?_)
    | (exact hK))
 ·have hk' : k = R.length := by omega
  subst hk'
  rw [List.take_of_length_le (Nat.le_refl _), List.take_of_length_le (by omega)] at hp
  exact absurd hp ho
theorem in_CheckRank {p : Prg} {key : Int} {l : List Clm} {s : List Int} (m : Nat) (o : List Int) (h : chkRk p key l = 0) (hl : l.length ≤ 12) (hs : Srt l.length (ltB p l (lotL key l)) s) (hol : o.length = (rankL p l s).length) (ho : o ≠ rankL p l s) {K : V → Mem → Prop} (hK : K (I 21) (oxM p (rankL p l s) l m o ++ [(⟨1, 4, 0⟩, .cells ty_priority_Program [LC p.cl, I p.po, I p.of, I p.fo])])) :
  In E 1 n_priority_CheckRank [Pgv p, I key, LM l, .ref ⟨0, 205, 0⟩ 0 (0 + (rankL p l s).length) (0 + (rankL p l s).length)] (oxM p (rankL p l s) l m o) K := by
 have ok := rk_ok h hl
 have h1 := s_checkRanking g p key l ok.sm (by omega)
 have h2 := s_ranked g h hl
 have h3 := s_order g ok (rk_tot h) hs
 have hRl : (rankL p l s).length = l.length := by rw [rankL_length, hs.len]
 have h6 := fun {K} => in_EqR g p (rankL p l s) l m o (by omega) hol ho (K := K)
 rw [h] at h1
 refine In.enter g.lim rfl code_priority_CheckRank ?_
 repeat' ((conv => whnf); first
 | refine Ya ?_ | refine Yb ?_ | refine Yc ?_ | refine Yd ?_ | refine Ye ?_ | refine Yf ?_ | refine Yg ?_ | refine Yh ?_ | refine Yi rfl ?_ | refine Yj rfl ?_ | refine Yk rfl ?_ | refine Yl rfl ?_
  | (refine Mt _ (by simp [memI, idB]) ?_)
  | (apply CallI.of; assumption)
  | (refine h6 ?_)
  | (refine CallI.of (s_pwhen g _ _) ?_)
  | (refine CallI.of (s_pfirst2 g _ _) ?_)
  | (exact hK))
end
section
variable {E : Oracle} (g : Good E)
include g
set_option maxHeartbeats 16000000 in
theorem lp_pairs (p : Prg) (k0 : Int) (l : List Clm) (s : List Int) (m : Nat) (hm : l.length = m + 1) (hl : l.length ≤ 7) (hz : chkRk p k0 l = 0) (hsr : Srt l.length (ltB p l (lotL k0 l)) s) {R W : List _} (hR : rankL p l s = R) (hW : whyI p l (lotL k0 l) (rankL p l s) (l.length - 1) = W) {K : Ex → Env → Mem → Prop}
  (hK : K (.exit 2) [(1, LM l), (3, .ptr ⟨0, 3, 0⟩ 0 0), (7, I k0), (8, LI R), (10, LS W), (12, .ref ⟨0, 125, m⟩ 0 (m + 1) (m + 1)), (15, LI (R.map (rv l.length))), (17, B (decide (poolA p l s < l.length))), (152, LI R), (153, I R.length), (154, I l.length), (155, B false)] (odM p R l m)) :
  LoopW E ⟨0, 0 + 1⟩ [1, 3, 7, 8, 10, 12, 15, 17, 152, 153, 154] [⟨0, 3, 0⟩, ⟨0, 112, 0⟩, ⟨0, 12, 0⟩, ⟨0, 125, m⟩] b_law05_PriorityOrders_2 [(1, LM l), (3, .ptr ⟨0, 3, 0⟩ 0 0), (7, I k0), (8, LI R), (10, LS W), (12, .ref ⟨0, 125, m⟩ 0 (m + 1) (m + 1)), (15, LI (R.map (rv l.length))), (17, B false), (152, LI R), (153, I R.length), (154, I 0)] (odM p R l m) K := by
 obtain ⟨hq1, hq2, hq3⟩ := chkRk_zero hz
 have ok := rk_ok hz (by omega)
 have hcl := (chkCms_zero hq3).2.1
 have hRl : R.length = l.length := by rw [← hR, rankL_length, hsr.len]
 have hO : Ord l.length R := by rw [← hR]; exact rankL_ord hsr.pm
 have hcls : ∀ {i : Nat} (hi : i < R.length), if i < poolA p l s then clA p l R[i] < p.po else p.po ≤ clA p l R[i] := by
  subst hR
  exact fun hi => rankL_cls hsr.up hi
 have c0 := w_claims g l (by omega)
 have c1 := w_program g p ok.sm
 have hwy := fun a b => why_ok ok.ky l (lotL k0 l) a b
 have hin : ∀ {i : Nat} (hi : i < R.length), ∃ (a : Nat) (h : a < l.length), R[i] = (a : Int) ∧ atC l R[i] = l[a] := fun {i} hi => by
  have h := hO.rng i (by omega)
  have e : R.getD i 0 = R[i] := by simp [List.getD, hi]
  rw [e] at h
  refine ⟨R[i].toNat, by omega, by omega, ?_⟩
  exact atC_get (by omega)
 refine LoopW.to (LoopW.up g (fun i => [(1, LM l), (3, .ptr ⟨0, 3, 0⟩ 0 0), (7, I k0), (8, LI R), (10, LS W), (12, .ref ⟨0, 125, m⟩ 0 (m + 1) (m + 1)), (15, LI (R.map (rv l.length))), (17, B (decide (poolA p l s < i))), (152, LI R), (153, I R.length), (154, I i)]) (fun _ => odM p R l m) l.length (fun i hi ih => ?_) 0 (Nat.zero_le _)) rfl rfl
 by_cases hlt : i < l.length
 ·have ih := ih hlt
  have hiR : i < R.length := by omega
  obtain ⟨a, ha, he, hc⟩ := hin hiR
  have hR2 : i < (R.map (rv l.length)).length := by simp; omega
  have hb : (R.map (rv l.length))[i] = rv l.length a := by rw [List.getElem_map, he]
  have hcc := hcls hiR
  have d1 := s_ClassOf g p l[a] ok.sm (hcl _ (List.getElem_mem ha)) hq1 ok.wh
  have ecl : clA p l R[i] = clsG l[a] 0 p.cl := by unfold clA; rw [hc]
  rw [ecl] at hcc
  generalize hcz : clsG l[a] 0 p.cl = z at *
  have hlen := bak_len l (k := m + 1) (by omega)
  have hf : (decide (poolA p l s < i) = true ∧ decide (poolA p l s < i + 1) = true ∧ p.po ≤ z) ∨ (decide (poolA p l s < i) = false ∧ decide (poolA p l s < i + 1) = true ∧ p.po ≤ z) ∨ (decide (poolA p l s < i) = false ∧ decide (poolA p l s < i + 1) = false ∧ z < p.po) := by
   by_cases h1 : i < poolA p l s
   ·rw [if_pos h1] at hcc
    exact .inr (.inr ⟨decide_eq_false (by omega), decide_eq_false (by omega), hcc⟩)
   ·rw [if_neg h1] at hcc
    by_cases h2 : poolA p l s < i
    ·exact .inl ⟨decide_eq_true h2, decide_eq_true (by omega), hcc⟩
    ·exact .inr (.inl ⟨decide_eq_false h2, decide_eq_true (by omega), hcc⟩)
  clear hcc
  cases i with
  | zero =>
   rcases hf with ⟨f1, f2, f3⟩ | ⟨f1, f2, f3⟩ | ⟨f1, f2, f3⟩
   all_goals
    rw [f2] at ih
    rw [f1]
    repeat' ((conv => whnf); first
    | refine Ya ?_ | refine Yb ?_ | refine Yc ?_ | refine Yd ?_ | refine Ye ?_ | refine Yf ?_ | refine Yg ?_ | refine Yh ?_ | refine Yi rfl ?_ | refine Yj rfl ?_ | refine Yk rfl ?_ | refine Yl rfl ?_
     | (apply CallI.of; assumption)
     | (refine Mt _ (Nat.beq_refl _) ?_)
     | (refine Mt _ (mI3 _) ?_)
     | (refine Need.mk ⟨rfl, by omega⟩ ?_)
     | (refine Need.mk ⟨by unfold rv; omega, by unfold rv; omega, rfl, by omega, rfl⟩ ?_)
     | (refine Pick.intI 0 rfl hiR ?_; rw [he])
     | (refine Pick.intI 0 rfl hR2 ?_; rw [hb])
     | (refine PickW.rec Clm.cells_length a rfl ha ?_)
     | (refine Pick.bak hm ha rfl ?_)
     | (refine Pick.rec00 Clm.cells_length a rfl ha rfl ?_)
     | (refine Cmp.tt rfl ?_)
     | (refine Cmp.tt (by omega) ?_)
     | (refine Cmp.ff (by omega) ?_)
     | (refine LoopW.to ih rfl rfl))
  | succ j =>
   have hjR : j < R.length := by omega
   obtain ⟨b, hbl, he', hc'⟩ := hin hjR
   have h7 : ∀ {K : V → Mem → Prop}, K (I 21) (oxM p R l m (swpN R j) ++ [(⟨1, 4, 0⟩, .cells ty_priority_Program [LC p.cl, I p.po, I p.of, I p.fo])]) → In E 1 n_priority_CheckRank [Pgv p, I k0, LM l, .ref ⟨0, 205, 0⟩ 0 (0 + R.length) (0 + R.length)] (oxM p R l m (swpN R j)) K := fun h => by
    subst hR
    exact in_CheckRank g m _ hz (by omega) hsr (swpN_len _ _) (swpN_ne hO (by omega)) h
   have h8 := s_Compare g p l[b] l[a] hq1 (hcl _ (List.getElem_mem hbl)) (hcl _ (List.getElem_mem ha))
   have h9 := hwy R[j] R[j + 1]
   rw [hc, hc'] at h9
   have hWj : W[j]'(by rw [← hW, whyI_length]; omega) = whyW p l (lotL k0 l) R[j] R[j + 1] := by
    subst hW hR
    simp [whyI, List.getD, hjR, hiR]
   have hjW : j < W.length := by rw [← hW, whyI_length]; omega
   have hWg : (W.map D.str)[(((j + 1 : Nat) : Int) - 1).toNat * 1]? = some (.str (whyW p l (lotL k0 l) R[j] R[j + 1])) := by
    have e1 : (((j + 1 : Nat) : Int) - 1).toNat * 1 = j := by omega
    rw [e1, ← hWj]
    simp [hjW]
   generalize (dcP p l[b] l[a]).1 = dz at *
   generalize whyW p l (lotL k0 l) R[j] R[j + 1] = wz at *
   have hw : (wz = lotW ∧ dz = 0) ∨ (wz = shareW ∧ dz ≠ -1) ∨ (wz ≠ lotW ∧ wz ≠ shareW ∧ dz = -1) := by
    by_cases h1 : wz = lotW
    ·exact .inl ⟨h1, h9.1 h1⟩
    ·by_cases h2 : wz = shareW
     ·exact .inr (.inl ⟨h2, h9.2.2 h2⟩)
     ·exact .inr (.inr ⟨h1, h2, h9.2.1 h1 h2⟩)
   clear hwy h9 hWj
   rcases hf with ⟨f1, f2, f3⟩ | ⟨f1, f2, f3⟩ | ⟨f1, f2, f3⟩
   all_goals rcases hw with ⟨rfl, rfl⟩ | ⟨rfl, w1⟩ | ⟨w1, w2, rfl⟩
   all_goals
    rw [f2] at ih
    rw [f1]
    repeat' ((conv => whnf); first
    | refine Ya ?_ | refine Yb ?_ | refine Yc ?_ | refine Yd ?_ | refine Ye ?_ | refine Yf ?_ | refine Yg ?_ | refine Yh ?_ | refine Yi rfl ?_ | refine Yj rfl ?_ | refine Yk rfl ?_ | refine Yl rfl ?_
     | (apply CallI.of; assumption)
     | (refine Mt _ (Nat.beq_refl _) ?_)
     | (refine Mt _ (mI3 _) ?_)
     | (refine Need.mk ⟨rfl, by omega⟩ ?_)
     | (refine Need.mk ⟨by unfold rv; omega, by unfold rv; omega, rfl, by omega, rfl⟩ ?_)
     | (refine Pick.intI (j + 1) rfl hiR ?_; rw [he])
     | (refine Pick.intI0 (l := R) (j + 1) rfl hiR ?_; rw [he])
     | (refine Pick.intI j (by omega) hjR ?_; rw [he'])
     | (refine Pick.intI0 (l := R) j (by omega) hjR ?_; rw [he'])
     | (refine PickW.rec Clm.cells_length b rfl hbl ?_)
     | (refine Need.mk ⟨rfl, by rw [patch_length _ _ _ (by simp; omega)]; simp; omega, rfl⟩ ?_; rw [patch_swp hiR he he'])
     | (refine Need.mk ⟨rfl, by simp; omega, rfl⟩ ?_)
     | (refine h7 ?_)
     | (refine Mt _ (by simp [memI, idB]) ?_)
     | (refine Pick.now hWg ?_)
     | (refine Pick.intI (j + 1) rfl hR2 ?_; rw [hb])
     | (refine PickW.rec Clm.cells_length a rfl ha ?_)
     | (refine Pick.bak hm ha rfl ?_)
     | (refine Pick.rec00 Clm.cells_length a rfl ha rfl ?_)
     | (refine Cmp.tt rfl ?_)
     | (refine Cmp.ff w1 ?_)
     | (refine Cmp.ff w2 ?_)
     | (refine Cmp.ff (by decide) ?_)
     | (refine Cmp.tt (by omega) ?_)
     | (refine Cmp.ff (by omega) ?_)
     | (refine LoopW.to ih rfl rfl))
 ·obtain rfl : i = l.length := by omega
  repeat' ((conv => whnf); first
  | refine Ya ?_ | refine Yb ?_ | refine Yc ?_ | refine Yd ?_ | refine Ye ?_ | refine Yf ?_ | refine Yg ?_ | refine Yh ?_ | refine Yi rfl ?_ | refine Yj rfl ?_ | refine Yk rfl ?_ | refine Yl rfl ?_
   | (exact hK))
end
abbrev plM (p : Prg) (R : List Int) (l : List Clm) (m : Nat) : Mem := [(⟨0, 3, 0⟩, .cells ty_turnroundref05_Program [LC p.cl, I p.po, I p.of, I p.fo]), (⟨0, 112, 0⟩, .row false ty_int 1 (0 + R.length) ([] ++ R.map DI)), (⟨0, 12, 0⟩, .row false ty_turnroundref05_Claim 18 0 []), (⟨0, 125, m⟩, bakR l (m + 1)), (⟨0, 25, 0⟩, .cells ty_priority_Program [LC p.cl, I p.cl.length, I p.of, I 0])]
section
variable {E : Oracle} (g : Good E)
include g
set_option maxHeartbeats 16000000 in
theorem lp_plain (p : Prg) (l : List Clm) (R R3 : List Int) (m : Nat) (hl : R3.length = l.length) (hl7 : l.length ≤ 7) (hq : chkPg p = 0) (hcl : ∀ c ∈ l, chkCl c = 0) (hO : Ord l.length R3) (hle : ∀ {j i : Nat}, j < i → i < R3.length → (dcP p (atC l (R3.getD j 0)) (atC l (R3.getD i 0))).1 ≤ 0) {K : Ex → Env → Mem → Prop}
  (hK : K (.exit 4) [(1, LM l), (25, .ptr ⟨0, 25, 0⟩ 0 0), (26, LI R3), (327, I R3.length), (328, I R3.length), (329, B false)] (plM p R l m)) :
  LoopW E ⟨0, 0 + 1⟩ [1, 25, 26, 327, 328] [⟨0, 3, 0⟩, ⟨0, 112, 0⟩, ⟨0, 12, 0⟩, ⟨0, 125, m⟩, ⟨0, 25, 0⟩] b_law05_PriorityOrders_4 [(1, LM l), (25, .ptr ⟨0, 25, 0⟩ 0 0), (26, LI R3), (327, I R3.length), (328, I 0)] (plM p R l m) K := by
 have hin : ∀ {i : Nat} (hi : i < R3.length), ∃ (a : Nat) (h : a < l.length), R3[i] = (a : Int) ∧ atC l (R3.getD i 0) = l[a] := fun {i} hi => by
  have h := hO.rng i (by omega)
  have e : R3.getD i 0 = R3[i] := by simp [List.getD, hi]
  rw [e] at h ⊢
  refine ⟨R3[i].toNat, by omega, by omega, ?_⟩
  exact atC_get (by omega)
 have hq' := plainP_ok hq
 refine LoopW.to (LoopW.up g (fun i => [(1, LM l), (25, .ptr ⟨0, 25, 0⟩ 0 0), (26, LI R3), (327, I R3.length), (328, I i)]) (fun _ => plM p R l m) R3.length (fun i hi ih => ?_) 0 (Nat.zero_le _)) rfl rfl
 by_cases hlt : i < R3.length
 ·have ih := ih hlt
  obtain ⟨a, ha, he, hc⟩ := hin hlt
  repeat' ((conv => whnf); first
  | refine Ya ?_ | refine Yb ?_ | refine Yc ?_ | refine Yd ?_ | refine Ye ?_ | refine Yf ?_ | refine Yg ?_ | refine Yh ?_ | refine Yi rfl ?_ | refine Yj rfl ?_ | refine Yk rfl ?_ | refine Yl rfl ?_
   | (refine Mt _ (by simp [memI, idB]) ?_))
  refine LoopW.to (LoopW.up g (fun j => [(1, LM l), (25, .ptr ⟨0, 25, 0⟩ 0 0), (26, LI R3), (28, I i), (327, I R3.length), (328, I i), (331, I i), (332, I j)]) (fun _ => plM p R l m) i (fun j hj ih' => ?_) 0 (Nat.zero_le _)) rfl rfl
  by_cases hjl : j < i
  ·have ih' := ih' hjl
   have hjR : j < R3.length := by omega
   obtain ⟨b, hb, he', hc'⟩ := hin hjR
   have h8 : Fc E n_priority_Compare [Pgv (plainP p), Clv l[b], Clv l[a]] (.tup [I (dcP p l[b] l[a]).1, I 0]) := s_Compare g (plainP p) l[b] l[a] hq' (hcl _ (List.getElem_mem hb)) (hcl _ (List.getElem_mem ha))
   have h9 := hle hjl hlt
   rw [hc, hc'] at h9
   generalize (dcP p l[b] l[a]).1 = dz at *
   repeat' ((conv => whnf); first
   | refine Ya ?_ | refine Yb ?_ | refine Yc ?_ | refine Yd ?_ | refine Ye ?_ | refine Yf ?_ | refine Yg ?_ | refine Yh ?_ | refine Yi rfl ?_ | refine Yj rfl ?_ | refine Yk rfl ?_ | refine Yl rfl ?_
    | (refine Mt _ (by simp [memI, idB]) ?_)
    | (refine Pick.intI j rfl hjR ?_; rw [he'])
    | (refine Pick.intI i rfl hlt ?_; rw [he])
    | (refine PickW.rec Clm.cells_length b rfl hb ?_)
    | (refine PickW.rec Clm.cells_length a rfl ha ?_)
    | (refine CallI.of h8 ?_)
    | (refine Cmp.ff (by omega) ?_)
    | (refine LoopW.to ih' rfl rfl))
  ·obtain rfl : j = i := by omega
   repeat' ((conv => whnf); first
   | refine Ya ?_ | refine Yb ?_ | refine Yc ?_ | refine Yd ?_ | refine Ye ?_ | refine Yf ?_ | refine Yg ?_ | refine Yh ?_ | refine Yi rfl ?_ | refine Yj rfl ?_ | refine Yk rfl ?_ | refine Yl rfl ?_
    | (refine Mt _ (by simp [memI, idB]) ?_)
    | (refine LoopW.to ih rfl rfl))
 ·obtain rfl : i = R3.length := by omega
  repeat' ((conv => whnf); first
  | refine Ya ?_ | refine Yb ?_ | refine Yc ?_ | refine Yd ?_ | refine Ye ?_ | refine Yf ?_ | refine Yg ?_ | refine Yh ?_ | refine Yi rfl ?_ | refine Yj rfl ?_ | refine Yk rfl ?_ | refine Yl rfl ?_
   | (refine Mt _ (by simp [memI, idB]) ?_)
   | (exact hK))
end
section
variable {E : Oracle} (g : Good E)
include g
set_option maxHeartbeats 16000000 in
theorem lp_back (p : Prg) (R : List Int) (W : List (List UInt8)) (k0 : Int) (l : List Clm) (m : Nat) (hm : l.length = m + 1) (hl : l.length ≤ 7) {K : Ex → Env → Mem → Prop}
  (hK : K (.exit 0) [(1, LM l), (3, .ptr ⟨0, 3, 0⟩ 0 0), (7, I k0), (8, LI R), (10, LS W), (12, .ref ⟨0, 125, m⟩ 0 (m + 1) (m + 1)), (118, LM l), (119, I l.length), (120, I (m + 1 : Nat)), (121, B false)] (orM p R ++ [(⟨0, 125, m⟩, bakR l (m + 1))])) :
  LoopW E ⟨0, 0 + 1⟩ [1, 3, 7, 8, 10, 12, 118, 119, 120] [⟨0, 3, 0⟩, ⟨0, 112, 0⟩, ⟨0, 12, 0⟩] b_law05_PriorityOrders_1 [(1, LM l), (3, .ptr ⟨0, 3, 0⟩ 0 0), (7, I k0), (8, LI R), (10, LS W), (12, .ref ⟨0, 12, 0⟩ 0 0 0), (118, LM l), (119, I l.length), (120, I 0)] (orM p R) K := by
 have h0 : 0 < l.length := by omega
 have next : LoopW E ⟨0, 0 + 1⟩ [1, 3, 7, 8, 10, 12, 118, 119, 120] [⟨0, 3, 0⟩, ⟨0, 112, 0⟩, ⟨0, 12, 0⟩] b_law05_PriorityOrders_1 [(1, LM l), (3, .ptr ⟨0, 3, 0⟩ 0 0), (7, I k0), (8, LI R), (10, LS W), (12, .ref ⟨0, 125, 0⟩ 0 (0 + 1) (0 + 1)), (118, LM l), (119, I l.length), (120, I (0 + 1 : Nat))] (orM p R ++ [(⟨0, 125, 0⟩, bakR l (0 + 1))]) K := by
  refine LoopW.up g (fun j => [(1, LM l), (3, .ptr ⟨0, 3, 0⟩ 0 0), (7, I k0), (8, LI R), (10, LS W), (12, .ref ⟨0, 125, j⟩ 0 (j + 1) (j + 1)), (118, LM l), (119, I l.length), (120, I (j + 1 : Nat))]) (fun j => orM p R ++ [(⟨0, 125, j⟩, bakR l (j + 1))]) m (fun j hj ih => ?_) 0 (Nat.zero_le _)
  have hlen := bak_len l (k := j + 1) (by omega)
  by_cases hlt : j < m
  ·have ih := ih hlt
   have hjl : j + 1 < l.length := by omega
   have hb1 : Nat.beq j (j + 1) = false := by
    rw [Bool.eq_false_iff]
    intro h
    have := Nat.eq_of_beq_eq_true h
    omega
   have hb2 : Nat.beq (j + 1) j = false := by
    rw [Bool.eq_false_iff]
    intro h
    have := Nat.eq_of_beq_eq_true h
    omega
   unfold bakR at ih
   rw [bak_succ hjl] at ih
   unfold bakR
   generalize (l.take (j + 1)).reverse.flatMap Clm.cells = X at *
   repeat' ((conv => whnf); first
   | refine Ya ?_ | refine Yb ?_ | refine Yc ?_ | refine Yd ?_ | refine Ye ?_ | refine Yf ?_ | refine Yg ?_ | refine Yh ?_ | refine Yi rfl ?_ | refine Yj rfl ?_ | refine Yk rfl ?_ | refine Yl rfl ?_
    | (refine PickW.rec Clm.cells_length (j + 1) rfl hjl ?_)
    | (refine Need.mk (by simp only [List.length_cons, List.length_nil]; omega) ?_)
    | (refine Mf _ hb1 ?_)
    | (refine Mt _ (Nat.beq_refl _) ?_)
    | (refine Mf _ (mI1 hb2) ?_)
    | (refine Mt _ (mI2 _) ?_)
    | (rw [Nat.beq_refl])
    | (rw [hb1]))
   conv => whnf
   rw [if_pos ⟨rfl, rfl⟩, Nat.add_comm 1 (j + 1)]
   exact LoopW.to ih rfl rfl
  ·obtain rfl : j = m := by omega
   repeat' ((conv => whnf); first
   | refine Ya ?_ | refine Yb ?_ | refine Yc ?_ | refine Yd ?_ | refine Ye ?_ | refine Yf ?_ | refine Yg ?_ | refine Yh ?_ | refine Yi rfl ?_ | refine Yj rfl ?_ | refine Yk rfl ?_ | refine Yl rfl ?_
    | (exact hK))
 have hlen := bak_len l (k := 0) (Nat.zero_le _)
 repeat' ((conv => whnf); first
 | refine Ya ?_ | refine Yb ?_ | refine Yc ?_ | refine Yd ?_ | refine Ye ?_ | refine Yf ?_ | refine Yg ?_ | refine Yh ?_ | refine Yi rfl ?_ | refine Yj rfl ?_ | refine Yk rfl ?_ | refine Yl rfl ?_)
 refine LoopW.step g.lim ?_
 repeat' ((conv => whnf); first
 | refine Ya ?_ | refine Yb ?_ | refine Yc ?_ | refine Yd ?_ | refine Ye ?_ | refine Yf ?_ | refine Yg ?_ | refine Yh ?_ | refine Yi rfl ?_ | refine Yj rfl ?_ | refine Yk rfl ?_ | refine Yl rfl ?_
  | (refine PickW.rec Clm.cells_length 0 rfl h0 ?_)
  | (refine Need.mk (by simp only [List.length_cons, List.length_nil]; omega) ?_)
  | (refine LoopW.to next rfl ?_))
 unfold bakR
 rw [bak_succ h0]
 rfl
set_option maxHeartbeats 32000000 in
theorem w_PriorityOrders (p : Prg) (l : List Clm) (key : Int) (hp : BigP p) (hL : l.length ≤ 9223372036854775807) (hk : 0 ≤ key ∧ key ≤ 65535) : Fc E n_law05_PriorityOrders [Pgv p, LM l, .d (.int .u16 key)] (B true) := by
 have aw := s_awake g
 have h0 := r_ShortP g p hp
 have h1 := r_ShortClaims g l 7 hL
 refine g.fn code_law05_PriorityOrders rfl ?_
 cases hs : shortP p
 ·rw [hs] at h0
  repeat' ((conv => whnf); first
  | refine Ya ?_ | refine Yb ?_ | refine Yc ?_ | refine Yd ?_ | refine Ye ?_ | refine Yf ?_ | refine Yg ?_ | refine Yh ?_ | refine Yi rfl ?_ | refine Yj rfl ?_ | refine Yk rfl ?_ | refine Yl rfl ?_
   | (apply CallI.of; assumption)
   | (refine Ret.mk rfl))
 ·have sm := shortP_small hs
  rw [hs] at h0
  by_cases hsc : ((l.length : Int) ≤ 7 ∨ l.length = 65) ∧ ∀ c ∈ l, briefB c.rq = true
  ·rw [decide_eq_true hsc] at h1
   by_cases hl : l.length ≤ 7
   ·have c0 := w_claims g l (by omega)
    have c1 := w_program g p sm
    have c2 := r_CheckProgram g p sm
    have c4 := r_CheckClaims g l (by omega)
    by_cases hz1 : chkPg p = 0
    ·rw [hz1] at c2
     by_cases hz2 : chkCms l = 0
     ·rw [hz2] at c4
      have hz : chkRk p (1 + key) l = 0 := by
       unfold chkRk
       rw [hz1, rng_zero.2 (by omega), hz2]
       rfl
      obtain ⟨s, hsr⟩ := srt_ex (rk_tot hz)
      have hRl : (rankL p l s).length = l.length := by rw [rankL_length, hsr.len]
      have p1 := s_Rank g hz (by omega) hsr
      have p2 := s_Why g hz (by omega) hsr
      have p3 : ∀ {n : Nat} {cs : List D}, n = (rankL p l s).length → cs = (rankL p l s).map DI → Fc E n_priority_CheckRank [Pgv p, I (1 + key), LM l, .d (.list n cs)] (I (chkOd (rankL p l s) (rankL p l s))) := fun h1 h2 => by subst h1 h2; exact s_CheckRank g _ hz (by omega) (by omega) hsr
      have hO := rankL_ord (p := p) hsr.pm
      have p4 := r_IsOrder g _ _ hO (by omega)
      have e0 : chkOd (rankL p l s) (rankL p l s) = 0 := by simp [chkOd]
      rw [e0] at p3
      have hWl : (whyI p l (lotL (1 + key) l) (rankL p l s) (l.length - 1)).length = l.length - 1 := whyI_length ..
      generalize hW : whyI p l (lotL (1 + key) l) (rankL p l s) (l.length - 1) = W at p2 hWl
      have hm2 : ∀ x ∈ s, x ∈ idL l.length := fun x hx => hsr.pm.mem_iff.1 hx
      have hzr : chkRk p (1 + key) l.reverse = 0 := by
       unfold chkRk
       rw [hz1, rng_zero.2 (by omega), chkCms_rev hz2]
       rfl
      have p5 := s_Rank g hzr (by rw [List.length_reverse]; omega) (rv_srt hsr)
      rw [rv_rank hm2] at p5
      have p6 : Fc E n_ref01_IsOrder [LI ((rankL p l s).map (rv l.length))] (B true) := by
       have h := rankL_ord (p := p) (rv_srt hsr).pm
       rw [rv_rank hm2] at h
       exact r_IsOrder g _ _ h (by rw [List.length_reverse]; omega)
      have hR2 : ((rankL p l s).map (rv l.length)).length = l.length := by rw [List.length_map, hRl]
      have c5 : ∀ {n : Nat} {cs : List D}, l.length = n → cs = (l.take n).reverse.flatMap Clm.cells → Fc E n_law05_claims [.d (.list n cs)] (LM l.reverse) := fun h1 h2 => by
       have c := w_claims g l.reverse (by rw [List.length_reverse]; omega)
       subst h1 h2
       rw [List.take_length, ← List.length_reverse]
       exact c
      have hsl := hsr.len
      have hR3l : (rankL (plainP p) l s).length = l.length := by rw [rankL_length, hsr.len]
      have p7 := s_Rank g (plainP_rk hz) (by omega) (s := s) hsr
      have p8 := r_IsOrder g _ _ (rankL_ord (p := plainP p) hsr.pm) (by omega)
      rcases Nat.eq_zero_or_pos l.length with hn | hn
      ·obtain rfl : l = [] := List.eq_nil_of_length_eq_zero hn
       have r1 : rankL p [] s = [] := List.eq_nil_of_length_eq_zero (by rw [hRl]; rfl)
       have r3 : rankL (plainP p) [] s = [] := List.eq_nil_of_length_eq_zero (by rw [hR3l]; rfl)
       obtain rfl : W = [] := List.eq_nil_of_length_eq_zero (by rw [hWl]; rfl)
       have c6 := c5 (n := 0) (cs := []) rfl rfl
       rw [r1] at p1 p3 p4 p5 p6
       rw [r3] at p7 p8
       repeat' ((conv => whnf); first
       | refine Ya ?_ | refine Yb ?_ | refine Yc ?_ | refine Yd ?_ | refine Ye ?_ | refine Yf ?_ | refine Yg ?_ | refine Yh ?_ | refine Yi rfl ?_ | refine Yj rfl ?_ | refine Yk rfl ?_ | refine Yl rfl ?_
        | (apply CallI.of; assumption)
        | (refine Need.mk ⟨rfl, rfl, rfl, rfl, rfl, by simp, by decide, by decide⟩ ?_)
        | (refine Need.mk (by decide) ?_)
        | (refine CallI.of (p3 rfl rfl) ?_)
        | (refine CallI.of c6 ?_)
        | (refine CallI.of p7 ?_)
        | (refine LoopW.step g.lim ?_)
        | (refine Ret.mk rfl))
      ·have hlen : ((max 0 ((l.length : Int) - 1)) : Int) = W.length := by omega
       repeat' ((conv => whnf); first
       | refine Ya ?_ | refine Yb ?_ | refine Yc ?_ | refine Yd ?_ | refine Ye ?_ | refine Yf ?_ | refine Yg ?_ | refine Yh ?_ | refine Yi rfl ?_ | refine Yj rfl ?_ | refine Yk rfl ?_ | refine Yl rfl ?_
        | (apply CallI.of; assumption)
        | (refine Need.mk ⟨rfl, rfl, rfl, rfl, rfl, by simp, by show (0 + (rankL p l s).length) * 8 ≤ _; omega, by omega⟩ ?_)
        | (refine CallI.of (p3 (Nat.zero_add _) (if_pos ⟨rfl, rfl⟩)) ?_)
        | (refine Ret.mk rfl))
       obtain ⟨m, hm⟩ : ∃ m, l.length = m + 1 := ⟨l.length - 1, by omega⟩
       refine lp_back g p (rankL p l s) W (1 + key) l m hm hl ?_
       repeat' ((conv => whnf); first
       | refine Ya ?_ | refine Yb ?_ | refine Yc ?_ | refine Yd ?_ | refine Ye ?_ | refine Yf ?_ | refine Yg ?_ | refine Yh ?_ | refine Yi rfl ?_ | refine Yj rfl ?_ | refine Yk rfl ?_ | refine Yl rfl ?_
        | (apply CallI.of; assumption)
        | (refine Mt _ (Nat.beq_refl _) ?_)
        | (refine Mt _ (mI3 _) ?_)
        | (refine CallI.of (c5 hm (if_pos ⟨rfl, rfl⟩)) ?_)
        | (refine CallI.of (c5 hm rfl) ?_)
        | (refine Need.mk ⟨rfl, by omega⟩ ?_)
        | (refine Ret.mk rfl))
       refine lp_pairs g p (1 + key) l s m hm hl hz hsr rfl hW ?_
       generalize decide (poolA p l s < l.length) = pf
       repeat' ((conv => whnf); first
       | refine Ya ?_ | refine Yb ?_ | refine Yc ?_ | refine Yd ?_ | refine Ye ?_ | refine Yf ?_ | refine Yg ?_ | refine Yh ?_ | refine Yi rfl ?_ | refine Yj rfl ?_ | refine Yk rfl ?_ | refine Yl rfl ?_
        | (apply CallI.of; assumption)
        | (refine CallI.of p7 ?_)
        | (refine Mt _ (Nat.beq_refl _) ?_)
        | (refine Mt _ (mI3 _) ?_)
        | (refine Ret.mk rfl))
       refine LoopW.to (lp_plain g p l (rankL p l s) (rankL (plainP p) l s) m hR3l hl hz1 (chkCms_zero hz2).2.1 (rankL_ord (p := plainP p) hsr.pm) (fun h1 h2 => plain_le hsr.up h1 (by omega)) ?_) rfl rfl
       repeat' ((conv => whnf); first
       | refine Ya ?_ | refine Yb ?_ | refine Yc ?_ | refine Yd ?_ | refine Ye ?_ | refine Yf ?_ | refine Yg ?_ | refine Yh ?_ | refine Yi rfl ?_ | refine Yj rfl ?_ | refine Yk rfl ?_ | refine Yl rfl ?_
        | (refine Mt _ (by simp [memI, idB]) ?_)
        | (apply CallI.of; assumption)
        | (refine Ret.mk rfl))
     ·repeat' ((conv => whnf); first
     | refine Ya ?_ | refine Yb ?_ | refine Yc ?_ | refine Yd ?_ | refine Ye ?_ | refine Yf ?_ | refine Yg ?_ | refine Yh ?_ | refine Yi rfl ?_ | refine Yj rfl ?_ | refine Yk rfl ?_ | refine Yl rfl ?_
       | (apply CallI.of; assumption)
       | (refine Cmp.tt hz2 ?_)
       | (refine Ret.mk rfl))
    ·repeat' ((conv => whnf); first
    | refine Ya ?_ | refine Yb ?_ | refine Yc ?_ | refine Yd ?_ | refine Ye ?_ | refine Yf ?_ | refine Yg ?_ | refine Yh ?_ | refine Yi rfl ?_ | refine Yj rfl ?_ | refine Yk rfl ?_ | refine Yl rfl ?_
      | (apply CallI.of; assumption)
      | (refine Cmp.tt hz1 ?_)
      | (refine Ret.mk rfl))
   ·repeat' ((conv => whnf); first
   | refine Ya ?_ | refine Yb ?_ | refine Yc ?_ | refine Yd ?_ | refine Ye ?_ | refine Yf ?_ | refine Yg ?_ | refine Yh ?_ | refine Yi rfl ?_ | refine Yj rfl ?_ | refine Yk rfl ?_ | refine Yl rfl ?_
     | (apply CallI.of; assumption)
     | (refine Ret.mk rfl))
  ·rw [decide_eq_false hsc] at h1
   repeat' ((conv => whnf); first
   | refine Ya ?_ | refine Yb ?_ | refine Yc ?_ | refine Yd ?_ | refine Ye ?_ | refine Yf ?_ | refine Yg ?_ | refine Yh ?_ | refine Yi rfl ?_ | refine Yj rfl ?_ | refine Yk rfl ?_ | refine Yl rfl ?_
    | (apply CallI.of; assumption)
    | (refine Ret.mk rfl))
end
theorem s_PriorityOrders {E : Oracle} (g : Good E) {xs : List D} (h : fitArgs Tryz.prog [24, 25, 26] xs) : Fc E n_law05_PriorityOrders (asV xs) (B true) := by
 obtain ⟨x, y, z, rfl, h1, h2, h3⟩ := args3 h
 obtain ⟨p, rfl, hp⟩ := arg_Program h1
 obtain ⟨l, rfl, hl⟩ := arg_Claims h2
 obtain ⟨k, rfl, hw⟩ := arg_i Tryz.underlying26 h3
 simp only [Lit.wf, Bool.and_eq_true, decide_eq_true_eq] at hw
 exact w_PriorityOrders g p l k hp hl hw
end Go.Proofs.YtlnlcdnpgjhaaaaGreatDoor.Co
