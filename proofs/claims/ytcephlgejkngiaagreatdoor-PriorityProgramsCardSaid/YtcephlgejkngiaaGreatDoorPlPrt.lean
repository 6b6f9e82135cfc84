
/-
  Priority: a program as a text, plain.
-/
import Derived.Test.YtcephlgejkngiaaGreatDoorPcCof
namespace Go.Proofs.YtcephlgejkngiaaGreatDoor.Co
open Go Go.Evl
def decL (n : Int) : List UInt8 := digitsF 20 n.toNat
theorem digitsF_len : ∀ (k u : Nat), (digitsF k u).length ≤ k
  | 0, _ => Nat.le_refl 0
  | k + 1, u => by
    unfold digitsF
    split
    · simp
    · have := digitsF_len k (u / 10)
      simp only [List.length_append, List.length_cons, List.length_nil]
      omega
theorem decL_len (n : Int) : (decL n).length ≤ 20 := digitsF_len 20 _
def tstL (t : Tst) : List UInt8 := t.fa ++ t.op ++ decL t.va
def keyL (k : Kyt) : List UInt8 := k.fa ++ [if k.dn = true then 45 else 43]
abbrev whenL : List UInt8 := [119, 104, 101, 110]
abbrev byL : List UInt8 := [98, 121]
def wsT (c : Cls) (k : Nat) : List (List UInt8) := [[99, 108, 97, 115, 115], c.nm] ++ if k = 0 then [] else whenL :: (c.wh.take k).map tstL
def wsK (c : Cls) (k : Nat) : List (List UInt8) := wsT c c.wh.length ++ if k = 0 then [] else byL :: (c.ky.take k).map keyL
def clsL (c : Cls) : List UInt8 := joined 32 (wsK c c.ky.length) ++ [10]
def poolW (p : Prg) : List (List UInt8) := [[112, 111, 111, 108], decL p.po, [115, 104, 97, 114, 101], decL p.fo, [111, 102], decL p.of]
def prgL (p : Prg) : List UInt8 := p.cl.flatMap clsL ++ (joined 32 (poolW p) ++ [10])
theorem wsT_zero (c : Cls) : wsT c 0 = [[99, 108, 97, 115, 115], c.nm] := rfl
theorem wsT_one (c : Cls) (h : 0 < c.wh.length) : wsT c 1 = (wsT c 0 ++ [whenL]) ++ [tstL c.wh[0]] := by
  unfold wsT
  rw [if_pos rfl, if_neg (by decide), List.take_add_one, List.getElem?_eq_getElem h]
  rfl
theorem wsT_succ (c : Cls) {k : Nat} (hk : k ≠ 0) (h : k < c.wh.length) : wsT c (k + 1) = wsT c k ++ [tstL c.wh[k]] := by
  unfold wsT
  rw [if_neg hk, if_neg (by omega), List.take_add_one, List.getElem?_eq_getElem h]
  simp only [List.map_append, Option.toList_some, List.map_cons, List.map_nil, List.cons_append, List.nil_append]
theorem wsK_zero (c : Cls) : wsK c 0 = wsT c c.wh.length := by
  unfold wsK
  rw [if_pos rfl, List.append_nil]
theorem wsK_one (c : Cls) (h : 0 < c.ky.length) : wsK c 1 = (wsK c 0 ++ [byL]) ++ [keyL c.ky[0]] := by
  unfold wsK
  rw [if_pos rfl, if_neg (by decide), List.take_add_one, List.getElem?_eq_getElem h]
  simp
theorem wsK_succ (c : Cls) {k : Nat} (hk : k ≠ 0) (h : k < c.ky.length) : wsK c (k + 1) = wsK c k ++ [keyL c.ky[k]] := by
  unfold wsK
  rw [if_neg hk, if_neg (by omega), List.take_add_one, List.getElem?_eq_getElem h]
  simp only [List.map_append, Option.toList_some, List.map_cons, List.map_nil, List.cons_append, List.append_assoc]
theorem wsT_ne (c : Cls) (k : Nat) : wsT c k ≠ [] := by simp [wsT]
theorem wsK_ne (c : Cls) (k : Nat) : wsK c k ≠ [] := by simp [wsK, wsT]
theorem fcL_len {s : List UInt8} (h : s ∈ fcL) : s.length ≤ 9 := by
  simp only [fcL, List.mem_cons, List.not_mem_nil, or_false] at h
  rcases h with rfl | rfl | rfl | rfl | rfl | rfl | rfl | rfl | rfl | rfl <;> decide
theorem tstL_len {t : Tst} (h : chkTs t = 0) : (tstL t).length ≤ 30 := by
  obtain ⟨h1, h2⟩ := chkTs_zero h
  have h3 := fcL_len h1
  have h4 := decL_len t.va
  have h5 : t.op.length = 1 := by rcases h2 with e | e | e <;> rw [e] <;> rfl
  unfold tstL
  simp only [List.length_append]
  omega
theorem keyL_len {k : Kyt} (h : k.fa ∈ fcL) : (keyL k).length ≤ 10 := by
  have := fcL_len h
  simp only [keyL, List.length_append, List.length_cons, List.length_nil]
  omega
theorem wsT_len {c : Cls} (h : OkCls c) (k : Nat) : (wsT c k).length ≤ 11 ∧ ∀ w ∈ wsT c k, w.length ≤ 30 := by
  have h1 := name_len h.nm
  have h2 := h.wh
  unfold wsT
  split
  · refine ⟨by simp, fun w hw => ?_⟩
    simp only [List.append_nil, List.mem_cons, List.not_mem_nil, or_false] at hw
    rcases hw with rfl | rfl
    · decide
    · omega
  · refine ⟨by simp only [List.length_append, List.length_cons, List.length_nil, List.length_map, List.length_take]; omega, fun w hw => ?_⟩
    simp only [List.cons_append, List.nil_append, List.mem_cons, List.mem_map] at hw
    rcases hw with rfl | rfl | rfl | ⟨t, ht, rfl⟩
    · decide
    · omega
    · decide
    · exact tstL_len (h.ts t (List.mem_of_mem_take ht))
theorem wsK_len {c : Cls} (h : OkCls c) (k : Nat) : (wsK c k).length ≤ 20 ∧ ∀ w ∈ wsK c k, w.length ≤ 30 := by
  have h1 := wsT_len h c.wh.length
  have h2 := h.ky
  unfold wsK
  split
  · rw [List.append_nil]
    exact ⟨by omega, h1.2⟩
  · refine ⟨by simp only [List.length_append, List.length_cons, List.length_map, List.length_take]; omega, fun w hw => ?_⟩
    rcases List.mem_append.1 hw with hw | hw
    · exact h1.2 w hw
    · simp only [List.mem_cons, List.mem_map] at hw
      rcases hw with rfl | ⟨t, ht, rfl⟩
      · decide
      · have := keyL_len (h.ks t (List.mem_of_mem_take ht))
        omega
theorem jT_len {c : Cls} (h : OkCls c) (k : Nat) : (joined 32 (wsT c k)).length ≤ 341 := by
  have h1 := wsT_len h k
  have := joined_len 32 30 _ h1.2
  omega
theorem jK_len {c : Cls} (h : OkCls c) (k : Nat) : (joined 32 (wsK c k)).length ≤ 620 := by
  have h1 := wsK_len h k
  have := joined_len 32 30 _ h1.2
  omega
theorem clsL_len {c : Cls} (h : OkCls c) : (clsL c).length ≤ 621 := by
  have := jK_len h c.ky.length
  unfold clsL
  rw [List.length_append, List.length_singleton]
  omega
theorem txtC_succ {l : List Cls} {k : Nat} (h : k < l.length) : (l.take (k + 1)).flatMap clsL = (l.take k).flatMap clsL ++ (joined 32 (wsK l[k] l[k].ky.length) ++ [10]) := by
  rw [List.take_add_one, List.getElem?_eq_getElem h, List.flatMap_append]
  simp [clsL]
theorem flat_len {l : List Cls} (h : ∀ c ∈ l, OkCls c) : (l.flatMap clsL).length ≤ l.length * 621 := by
  induction l with
  | nil => simp
  | cons c r ih =>
    have h1 := clsL_len (h c (List.mem_cons_self ..))
    have h2 := ih fun x hx => h x (List.mem_cons_of_mem _ hx)
    rw [List.flatMap_cons, List.length_append, List.length_cons]
    omega
theorem txtC_len {p : Prg} (h : OkPrg p) (k : Nat) : ((p.cl.take k).flatMap clsL).length ≤ 9936 := by
  have h1 := flat_len (l := p.cl.take k) fun c hc => h.cs c (List.mem_of_mem_take hc)
  have h2 := h.many
  rw [List.length_take] at h1
  omega
theorem poolW_len (p : Prg) : (joined 32 (poolW p)).length ≤ 126 := by
  have := joined_len 32 20 (poolW p) fun w hw => by
    have h1 := decL_len p.po
    have h2 := decL_len p.fo
    have h3 := decL_len p.of
    simp only [poolW, List.mem_cons, List.not_mem_nil, or_false] at hw
    rcases hw with rfl | rfl | rfl | rfl | rfl | rfl <;> first | decide | omega
  have e : (poolW p).length = 6 := rfl
  omega
end Go.Proofs.YtcephlgejkngiaaGreatDoor.Co
