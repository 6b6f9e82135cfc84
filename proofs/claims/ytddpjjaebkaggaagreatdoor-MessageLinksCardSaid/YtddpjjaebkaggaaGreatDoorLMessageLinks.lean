
/-
  MessageLinks returns true, for all requests.
-/
import Derived.Test.YtddpjjaebkaggaaGreatDoorPlLnk
import Derived.Test.YtddpjjaebkaggaaGreatDoorMsPai
import Derived.Test.YtddpjjaebkaggaaGreatDoorMsKey
import Derived.Test.YtddpjjaebkaggaaGreatDoorMsFix
import Derived.Test.YtddpjjaebkaggaaGreatDoorAwM
namespace Go.Proofs.YtddpjjaebkaggaaGreatDoor.Co
open Go Go.Evl
set_option maxRecDepth 100000
theorem chkRqG_of : ∀ (l : List Rqt) (seen : List (List UInt8)), (nmsQ l).Nodup → (∀ s ∈ nmsQ l, s ∉ seen) → (∀ x ∈ l, chkRq x = 0) → chkRqG seen l = 0
  | [], _, _, _, _ => rfl
  | x :: r, seen, h1, h2, h3 => by
    have h1 : (x.nm :: nmsQ r).Nodup := h1
    rw [List.nodup_cons] at h1
    have e : firstI [chkRq x, if x.nm ∈ seen then 9 else 0] = 0 := by
      rw [h3 x (List.mem_cons_self ..), if_neg (h2 x.nm (by simp [nmsQ]))]; rfl
    rw [chkRqG, if_pos e]
    refine chkRqG_of r _ h1.2 (fun s hs hm => ?_) fun y hy => h3 y (List.mem_cons_of_mem _ hy)
    rcases List.mem_append.1 hm with hm | hm
    · exact h2 s (by simp only [nmsQ, List.map_cons, List.mem_cons]; exact .inr hs) hm
    · rw [List.mem_singleton] at hm; subst hm; exact h1.1 hs
theorem chkRqs_of {l : List Rqt} (h1 : l.length ≤ 64) (h2 : (nmsQ l).Nodup) (h3 : ∀ x ∈ l, chkRq x = 0) : chkRqs l = 0 := by
  unfold chkRqs
  rw [if_neg (by omega)]
  exact chkRqG_of l [] h2 (fun _ _ h => by cases h) h3
structure RqOk (q : Rqt) : Prop where
  nm : q.nm ≠ []
  ki : q.ki = [65] ∨ q.ki = [68]
  free : chkRq { q with li := [] } = 0
theorem rq_ok {q : Rqt} (h : chkRq q = 0) : RqOk q := by
  have h0 := h
  unfold chkRq at h
  rw [firstI_zero] at h
  have hn : q.nm ≠ [] := by
    intro e
    have := h (nmE q.nm) (by simp)
    rw [e] at this
    exact absurd this (by decide)
  refine ⟨hn, ?_, ?_⟩
  · have := h (if (!kindB q.ki) = true then 13 else 0) (by simp)
    cases hk : kindB q.ki with
    | false => rw [hk] at this; cases this
    | true => simpa [kindB] using hk
  · unfold chkRq
    rw [firstI_zero]
    intro x hx
    simp only [List.mem_cons, List.not_mem_nil, or_false] at hx
    rcases hx with rfl | rfl | rfl | rfl | rfl | rfl | rfl | rfl | rfl | rfl | rfl | rfl
    · exact h _ (by simp)
    · exact h _ (by simp)
    · exact h _ (by simp)
    · exact h _ (by simp)
    · decide
    · exact h _ (by simp)
    · rw [if_neg (Ne.symm hn)]
    · exact h _ (by simp)
    · exact h _ (by simp)
    · exact h _ (by simp)
    · exact h _ (by simp)
    · exact h _ (by simp)
theorem freeL_nms (l : List Rqt) : nmsQ (freeL l) = nmsQ l := by simp [nmsQ, freeL]
theorem freeL_chk {l : List Rqt} (h : chkRqs l = 0) : chkRqs (freeL l) = 0 := by
  obtain ⟨h1, h2, h3⟩ := chkRqs_zero h
  refine chkRqs_of (by simp [freeL]; exact h1) (by rw [freeL_nms]; exact h2) fun x hx => ?_
  simp only [freeL, List.mem_map] at hx
  obtain ⟨q, hq, rfl⟩ := hx
  exact (rq_ok (h3 q hq)).free
theorem rev_chk {l : List Rqt} (h : chkRqs l = 0) : chkRqs l.reverse = 0 := by
  obtain ⟨h1, h2, h3⟩ := chkRqs_zero h
  exact chkRqs_of (by simpa using h1) (rev_uniq h2) fun x hx => h3 x (List.mem_reverse.1 hx)
def keysI (ks : List Int) : List (D × V) := ks.map fun k => (DI k, B true)
theorem find_keysI (x : Int) : ∀ ks : List Int, findE (DI x) (keysI ks) = some (if x ∈ ks then some (B true) else none)
  | [] => rfl
  | t :: r => by
    have ih := find_keysI x r
    unfold keysI at ih ⊢
    rw [List.map_cons, findE]
    simp only [eqD, if_true]
    by_cases h : x = t
    · subst h; simp
    · rw [decide_eq_false h]
      simp only [ih, List.mem_cons, h, false_or]
theorem ids_keysI : ∀ ks : List Int, Evl.idsM (keysI ks) = []
  | [] => rfl
  | _ :: r => by
    show [] ++ Evl.idsM (keysI r) = []
    rw [ids_keysI r]; rfl
theorem set_keysI (x : Int) : ∀ ks : List Int, x ∉ ks → setE (DI x) (B true) (keysI ks) = some (keysI (ks ++ [x]))
  | [], _ => rfl
  | t :: r, h => by
    have ih := set_keysI x r fun hm => h (List.mem_cons_of_mem _ hm)
    have hne : x ≠ t := fun e => h (by simp [e])
    unfold keysI at ih ⊢
    rw [List.map_cons, setE]
    simp only [eqD, if_true, decide_eq_false hne, ih, Option.map_some, List.cons_append, List.map_cons]
def ksP (ps : List (Nat × Nat)) : List Int := ps.flatMap fun p => [(p.1 : Int), (p.2 : Int)]
theorem ksP_mem (ps : List (Nat × Nat)) (i : Nat) : (i : Int) ∈ ksP ps ↔ ∃ p ∈ ps, p.1 = i ∨ p.2 = i := by
  simp only [ksP, List.mem_flatMap, List.mem_cons, List.not_mem_nil, or_false]
  constructor
  · rintro ⟨p, hp, h | h⟩
    · exact ⟨p, hp, .inl (by omega)⟩
    · exact ⟨p, hp, .inr (by omega)⟩
  · rintro ⟨p, hp, rfl | rfl⟩
    · exact ⟨p, hp, .inl rfl⟩
    · exact ⟨p, hp, .inr rfl⟩
theorem ksP_succ {ps : List (Nat × Nat)} {s : Nat} (h : s < ps.length) : ksP (ps.take (s + 1)) = ksP (ps.take s) ++ [(ps[s].1 : Int)] ++ [(ps[s].2 : Int)] := by
  unfold ksP
  rw [List.take_add_one, List.getElem?_eq_getElem h, List.flatMap_append]
  simp
theorem pair_new {l : List Rqt} (hu : (nmsQ l).Nodup) (hp : OkP l l) {s : Nat} (hs : s < (prL l 0 l).length) {i : Nat} (hi : i = (prL l 0 l)[s].1 ∨ i = (prL l 0 l)[s].2) : (i : Int) ∉ ksP ((prL l 0 l).take s) := by
  rw [ksP_mem]
  rintro ⟨p, hpm, he⟩
  obtain ⟨t, ht, rfl⟩ := List.getElem_of_mem hpm
  rw [List.length_take] at ht
  rw [List.getElem_take] at he
  have := pair_no hu hp (s := t) (t := s) (by omega) hs (by omega)
  omega
section
variable {E : Oracle} (g : Good E)
include g
abbrev rwQ (l : List Rqt) : Evl.Ob := .row false ty_api_Request 13 l.length (l.flatMap Rqt.cells)
def bkV : Nat → V
  | 0 => .ref ⟨0, 3, 0⟩ 0 0 0
  | k + 1 => .ref ⟨0, 39, k⟩ 0 (k + 1) (k + 1)
def bkN (xs ys : List D) : Nat → Mem
  | 0 => [(⟨0, 3, 0⟩, .row false ty_api_Request 13 0 []), (⟨0, 4, 0⟩, .row false ty_api_Request 13 0 [])]
  | k + 1 => [(⟨0, 3, 0⟩, .row false ty_api_Request 13 0 []), (⟨0, 4, 0⟩, .row false ty_api_Request 13 (k + 1) ys), (⟨0, 39, k⟩, .row false ty_api_Request 13 (k + 1) xs)]
def bkM (l : List Rqt) (k : Nat) : Mem := bkN ((l.take k).reverse.flatMap Rqt.cells) ((freeL (l.take k)).flatMap Rqt.cells) k
set_option maxHeartbeats 8000000 in
theorem links_loop (l : List Rqt) (hl : l.length ≤ 6) (K : Ex → Env → Mem → Prop)
    (hk : K (.exit 0) [(0, LQ l), (3, bkV l.length), (4, .ref ⟨0, 4, 0⟩ 0 l.length l.length), (32, LQ l), (33, I l.length), (34, I l.length), (35, B false)] (bkM l l.length)) :
    LoopW E ⟨0, 1⟩ [0, 3, 4, 32, 33, 34] [⟨0, 3, 0⟩, ⟨0, 4, 0⟩] b_law02_MessageLinks_1 [(0, LQ l), (3, .ref ⟨0, 3, 0⟩ 0 0 0), (4, .ref ⟨0, 4, 0⟩ 0 0 0), (32, LQ l), (33, I l.length), (34, I 0)]
      [(⟨0, 3, 0⟩, .row false ty_api_Request 13 0 []), (⟨0, 4, 0⟩, .row false ty_api_Request 13 0 [])] K := by
  refine LoopW.to (LoopW.up g (fun k => [(0, LQ l), (3, bkV k), (4, .ref ⟨0, 4, 0⟩ 0 k k), (32, LQ l), (33, I l.length), (34, I k)]) (fun k => bkM l k) l.length (fun k hk2 ih => ?_) 0 (Nat.zero_le _)) rfl rfl
  by_cases hlt : k < l.length
  · have ih := ih hlt
    have e1 : l.take (k + 1) = l.take k ++ [l[k]] := by rw [List.take_add_one, List.getElem?_eq_getElem hlt]; rfl
    have e2 : (l.take (k + 1)).reverse.flatMap Rqt.cells = l[k].cells ++ (l.take k).reverse.flatMap Rqt.cells := by rw [e1, List.reverse_append]; rfl
    have e3 : (freeL (l.take (k + 1))).flatMap Rqt.cells = (freeL (l.take k)).flatMap Rqt.cells ++ Rqt.cells { l[k] with li := [] } := by rw [e1]; unfold freeL; rw [List.map_append, List.flatMap_append]; rfl
    have l1 : ((l.take k).reverse.flatMap Rqt.cells).length = k * 13 := by
      have := flatR_length Rqt.cells 13 Rqt.cells_length (l.take k).reverse
      rw [this]; simp; omega
    have l2 : ((freeL (l.take k)).flatMap Rqt.cells).length = k * 13 := by
      have := flatR_length Rqt.cells 13 Rqt.cells_length (freeL (l.take k))
      rw [this]; simp [freeL]; omega
    unfold bkM at ih ⊢
    rw [e2, e3] at ih
    have hc : k = 0 ∨ k = 1 ∨ k = 2 ∨ k = 3 ∨ k = 4 ∨ k = 5 := by omega
    clear e1 e2 e3
    generalize (l.take k).reverse.flatMap Rqt.cells = xs at *
    generalize (freeL (l.take k)).flatMap Rqt.cells = ys at *
    have hx0 : k = 0 → xs = [] ∧ ys = [] := fun h => ⟨List.eq_nil_of_length_eq_zero (by omega), List.eq_nil_of_length_eq_zero (by omega)⟩
    rcases hc with rfl | rfl | rfl | rfl | rfl | rfl
    · obtain ⟨rfl, rfl⟩ := hx0 rfl
      repeat' ((conv => whnf); first
      | refine Br.tt ?_
      | refine Br.ff ?_
      | refine Need.w ?_
      | refine Wr.w ?_
      | refine Cmp.t ?_
      | refine Cmp.f ?_
      | refine Rem.w ?_
      | refine Quo.w ?_
      | refine PickV.now rfl ?_
      | refine Pick.now rfl ?_
      | refine Chk.mk rfl ?_
      | refine PickW.w rfl ?_
        | (refine PickW.rec Rqt.cells_length _ (by omega) hlt ?_)
        | (refine LoopW.to ih rfl rfl))
    all_goals (repeat' ((conv => whnf); first
    | refine Br.tt ?_
    | refine Br.ff ?_
    | refine Need.w ?_
    | refine Wr.w ?_
    | refine Cmp.t ?_
    | refine Cmp.f ?_
    | refine Rem.w ?_
    | refine Quo.w ?_
    | refine PickV.now rfl ?_
    | refine Pick.now rfl ?_
    | refine Chk.mk rfl ?_
    | refine PickW.w rfl ?_
      | (refine PickW.rec Rqt.cells_length _ (by omega) hlt ?_)
      | (refine LoopW.to ih rfl rfl)))
  · have e : k = l.length := by omega
    subst e
    repeat' ((conv => whnf); first
    | refine Br.tt ?_
    | refine Br.ff ?_
    | refine Need.w ?_
    | refine Wr.w ?_
    | refine Cmp.t ?_
    | refine Cmp.f ?_
    | refine Rem.w ?_
    | refine Quo.w ?_
    | refine PickV.now rfl ?_
    | refine Pick.now rfl ?_
    | refine Chk.mk rfl ?_
    | refine PickW.w rfl ?_
      | (exact hk))
omit g in
theorem mem_39 (c : Nat) (ks : List Evl.Id) : memI (⟨0, 3, 0⟩ :: ⟨0, 4, 0⟩ :: ⟨0, 39, c⟩ :: ks) ⟨0, 39, c⟩ = true := by
  rw [memI_eq]; simp
abbrev rw13 (n : Nat) (xs : List D) : Evl.Ob := .row false ty_api_Request 13 n xs
abbrev rqC (q : Rqt) : Evl.Ob := .cells ty_api_Request (q.cells.map V.d)
set_option maxHeartbeats 8000000 in
theorem links_found {l : List Rqt} {r ps : List (Nat × Nat)} {p : Nat × Nat} {s n4 n5 c : Nat} {x4 x5 : List D} {ks : List Int} {qa qd : Rqt} (hl : l.length ≤ 6) (hr : r.length ≤ 6) (h1 : p.1 < l.length) (h2 : p.2 < l.length) (hm : (l.length - 1 - p.1, l.length - 1 - p.2) ∈ r) (K : Ex → Env → Mem → Prop)
    (hk : K (.exit 4) [(0, LQ l), (9, LP r), (13, .mp ⟨0, 102, 0⟩), (15, .ptr ⟨0, 15, 0⟩ 0 0), (18, B true), (103, LP ps), (104, I ps.length), (105, I s), (195, LP r), (196, I r.length), (197, I r.length), (198, B false)]
      [(⟨0, 3, 0⟩, rw13 0 []), (⟨0, 4, 0⟩, rw13 n4 x4), (⟨0, 39, c⟩, rw13 n5 x5), (⟨0, 102, 0⟩, .map (keysI ks)), (⟨0, 15, 0⟩, .cells ty_2_int [I p.1, I p.2]), (⟨0, 16, 0⟩, rqC qa), (⟨0, 17, 0⟩, rqC qd)]) :
    LoopW E ⟨0, 1⟩ [0, 9, 13, 15, 18, 103, 104, 105, 195, 196, 197] [⟨0, 3, 0⟩, ⟨0, 4, 0⟩, ⟨0, 39, c⟩, ⟨0, 102, 0⟩, ⟨0, 15, 0⟩, ⟨0, 16, 0⟩, ⟨0, 17, 0⟩] b_law02_MessageLinks_2
      [(0, LQ l), (9, LP r), (13, .mp ⟨0, 102, 0⟩), (15, .ptr ⟨0, 15, 0⟩ 0 0), (18, B false), (103, LP ps), (104, I ps.length), (105, I s), (195, LP r), (196, I r.length), (197, I 0)]
      [(⟨0, 3, 0⟩, rw13 0 []), (⟨0, 4, 0⟩, rw13 n4 x4), (⟨0, 39, c⟩, rw13 n5 x5), (⟨0, 102, 0⟩, .map (keysI ks)), (⟨0, 15, 0⟩, .cells ty_2_int [I p.1, I p.2]), (⟨0, 16, 0⟩, rqC qa), (⟨0, 17, 0⟩, rqC qd)] K := by
  refine LoopW.to (LoopW.up g (fun k => [(0, LQ l), (9, LP r), (13, .mp ⟨0, 102, 0⟩), (15, .ptr ⟨0, 15, 0⟩ 0 0), (18, B (decide ((l.length - 1 - p.1, l.length - 1 - p.2) ∈ r.take k))), (103, LP ps), (104, I ps.length), (105, I s), (195, LP r), (196, I r.length), (197, I k)])
    (fun _ => [(⟨0, 3, 0⟩, rw13 0 []), (⟨0, 4, 0⟩, rw13 n4 x4), (⟨0, 39, c⟩, rw13 n5 x5), (⟨0, 102, 0⟩, .map (keysI ks)), (⟨0, 15, 0⟩, .cells ty_2_int [I p.1, I p.2]), (⟨0, 16, 0⟩, rqC qa), (⟨0, 17, 0⟩, rqC qd)]) r.length (fun k hk2 ih => ?_) 0 (Nat.zero_le _)) (by simp) rfl
  have hmi := mem_39 c
  by_cases hlt : k < r.length
  · have ih := ih hlt
    have e1 : r.take (k + 1) = r.take k ++ [r[k]] := by rw [List.take_add_one, List.getElem?_eq_getElem hlt]; rfl
    have hd : (decide ((l.length - 1 - p.1, l.length - 1 - p.2) ∈ r.take (k + 1))) = (decide ((l.length - 1 - p.1, l.length - 1 - p.2) ∈ r.take k) || decide ((l.length - 1 - p.1, l.length - 1 - p.2) = r[k])) := by
      rw [e1]; simp only [List.mem_append, List.mem_singleton, Bool.decide_or]
    rw [hd] at ih
    generalize decide ((l.length - 1 - p.1, l.length - 1 - p.2) ∈ r.take k) = b at *
    cases b with
    | true =>
      repeat' ((conv => whnf); first
      | refine Br.tt ?_
      | refine Br.ff ?_
      | refine Need.w ?_
      | refine Wr.w ?_
      | refine Cmp.t ?_
      | refine Cmp.f ?_
      | refine Rem.w ?_
      | refine Quo.w ?_
      | refine PickV.now rfl ?_
      | refine Pick.now rfl ?_
      | refine Chk.mk rfl ?_
      | refine PickW.w rfl ?_
        | (refine PickW.rec cellN_length k (by omega) hlt ?_)
        | (rw [hmi])
        | (simp only [Evl.idsAll, Evl.idsO, ids_keysI, List.nil_append])
        | (refine LoopW.to ih rfl rfl))
    | false =>
      by_cases he : (l.length - 1 - p.1, l.length - 1 - p.2) = r[k]
      · rw [decide_eq_true he] at ih
        have q1 : (r[k].1 : Int) = l.length - 1 - p.1 := by rw [← he]; omega
        have q2 : (r[k].2 : Int) = l.length - 1 - p.2 := by rw [← he]; omega
        repeat' ((conv => whnf); first
        | refine Br.tt ?_
        | refine Br.ff ?_
        | refine Need.w ?_
        | refine Wr.w ?_
        | refine Cmp.t ?_
        | refine Cmp.f ?_
        | refine Rem.w ?_
        | refine Quo.w ?_
        | refine PickV.now rfl ?_
        | refine Pick.now rfl ?_
        | refine Chk.mk rfl ?_
        | refine PickW.w rfl ?_
          | (refine PickW.rec cellN_length k (by omega) hlt ?_)
          | (rw [hmi])
          | (simp only [Evl.idsAll, Evl.idsO, ids_keysI, List.nil_append])
          | (refine Cmp.tt ⟨q1, q2⟩ ?_)
          | (refine LoopW.to ih rfl rfl))
      · rw [decide_eq_false he] at ih
        have q1 : ¬ ((r[k].1 : Int) = l.length - 1 - p.1 ∧ (r[k].2 : Int) = l.length - 1 - p.2) := fun h => he (Prod.ext (by simp only; omega) (by simp only; omega))
        repeat' ((conv => whnf); first
        | refine Br.tt ?_
        | refine Br.ff ?_
        | refine Need.w ?_
        | refine Wr.w ?_
        | refine Cmp.t ?_
        | refine Cmp.f ?_
        | refine Rem.w ?_
        | refine Quo.w ?_
        | refine PickV.now rfl ?_
        | refine Pick.now rfl ?_
        | refine Chk.mk rfl ?_
        | refine PickW.w rfl ?_
          | (refine PickW.rec cellN_length k (by omega) hlt ?_)
          | (rw [hmi])
          | (simp only [Evl.idsAll, Evl.idsO, ids_keysI, List.nil_append])
          | (refine Cmp.ff q1 ?_)
          | (refine LoopW.to ih rfl rfl))
  · have e : k = r.length := by omega
    subst e
    rw [List.take_length, decide_eq_true hm]
    repeat' ((conv => whnf); first
    | refine Br.tt ?_
    | refine Br.ff ?_
    | refine Need.w ?_
    | refine Wr.w ?_
    | refine Cmp.t ?_
    | refine Cmp.f ?_
    | refine Rem.w ?_
    | refine Quo.w ?_
    | refine PickV.now rfl ?_
    | refine Pick.now rfl ?_
    | refine Chk.mk rfl ?_
    | refine PickW.w rfl ?_
      | (exact hk))
set_option maxHeartbeats 8000000 in
theorem links_pairs {l : List Rqt} {r ps : List (Nat × Nat)} {n4 n5 c : Nat} {x4 x5 : List D} (hl : l.length ≤ 6) (hr : r.length ≤ 6) (hpl : ps.length ≤ 6) (hu : (nmsQ l).Nodup) (hv : ∀ x ∈ l, x.ki = [65] ∨ x.ki = [68]) (hp : OkP l l) (hps : ps = prL l 0 l) (hrs : r = prL l.reverse 0 l.reverse) (K : Ex → Env → Mem → Prop)
    (hk : K (.exit 2) [(0, LQ l), (9, LP r), (13, .mp ⟨0, 102, 0⟩), (103, LP ps), (104, I ps.length), (105, I ps.length), (106, B false)]
      [(⟨0, 3, 0⟩, rw13 0 []), (⟨0, 4, 0⟩, rw13 n4 x4), (⟨0, 39, c⟩, rw13 n5 x5), (⟨0, 102, 0⟩, .map (keysI (ksP ps)))]) :
    LoopW E ⟨0, 1⟩ [0, 9, 13, 103, 104, 105] [⟨0, 3, 0⟩, ⟨0, 4, 0⟩, ⟨0, 39, c⟩, ⟨0, 102, 0⟩] b_law02_MessageLinks_3
      [(0, LQ l), (9, LP r), (13, .mp ⟨0, 102, 0⟩), (103, LP ps), (104, I ps.length), (105, I 0)]
      [(⟨0, 3, 0⟩, rw13 0 []), (⟨0, 4, 0⟩, rw13 n4 x4), (⟨0, 39, c⟩, rw13 n5 x5), (⟨0, 102, 0⟩, .map [])] K := by
  refine LoopW.to (LoopW.up g (fun s => [(0, LQ l), (9, LP r), (13, .mp ⟨0, 102, 0⟩), (103, LP ps), (104, I ps.length), (105, I s)])
    (fun s => [(⟨0, 3, 0⟩, rw13 0 []), (⟨0, 4, 0⟩, rw13 n4 x4), (⟨0, 39, c⟩, rw13 n5 x5), (⟨0, 102, 0⟩, .map (keysI (ksP (ps.take s))))]) ps.length (fun s hs2 ih => ?_) 0 (Nat.zero_le _)) rfl rfl
  have hmi := mem_39 c
  by_cases hlt : s < ps.length
  · have ih := ih hlt
    rw [ksP_succ hlt] at ih
    have hmem : ps[s] ∈ prL l 0 l := by rw [← hps]; exact List.getElem_mem hlt
    obtain ⟨x1, x2, x3, x4', x5', x6, x7⟩ := pair_ok hu hp hmem
    have hrm : (l.length - 1 - ps[s].1, l.length - 1 - ps[s].2) ∈ r := by rw [hrs]; exact rev_pair hu hp hmem
    have hkd : l[ps[s].2].ki = [68] := (hv _ (List.getElem_mem x2)).resolve_left x4'
    have w1 : (ps[s].1 : Int) ∉ ksP (ps.take s) := by subst hps; exact pair_new hu hp hlt (.inl rfl)
    have w2 : (ps[s].2 : Int) ∉ ksP (ps.take s) := by subst hps; exact pair_new hu hp hlt (.inr rfl)
    have hne : ¬ ((ps[s].1 : Int) = ps[s].2) := by
      intro e
      have e : ps[s].1 = ps[s].2 := by omega
      have : l[ps[s].1].ki = l[ps[s].2].ki := by congr 1; simp only [e]
      rw [x3, hkd] at this
      exact absurd this (by decide)
    have f1 := find_keysI (ps[s].1) (ksP (ps.take s))
    have f2 := find_keysI (ps[s].2) (ksP (ps.take s))
    rw [if_neg w1] at f1
    rw [if_neg w2] at f2
    have g1 := set_keysI (ps[s].1) (ksP (ps.take s)) w1
    have g2 := set_keysI (ps[s].2) (ksP (ps.take s) ++ [(ps[s].1 : Int)]) (by
      simp only [List.mem_append, List.mem_singleton, not_or]
      exact ⟨w2, fun e => hne e.symm⟩)
    have hfound := fun K ks => @links_found E g l r ps ps[s] s n4 n5 c x4 x5 ks l[ps[s].1] l[ps[s].2] hl hr x1 x2 hrm K
    generalize ksP (ps.take s) = ks at *
    repeat' ((conv => whnf); first
    | refine Br.tt ?_
    | refine Br.ff ?_
    | refine Need.w ?_
    | refine Wr.w ?_
    | refine Cmp.t ?_
    | refine Cmp.f ?_
    | refine Rem.w ?_
    | refine Quo.w ?_
    | refine PickV.now rfl ?_
    | refine Pick.now rfl ?_
    | refine Chk.mk rfl ?_
    | refine PickW.w rfl ?_
      | (refine PickW.rec cellN_length s (by omega) hlt ?_)
      | (refine PickW.rec Rqt.cells_length ps[s].1 (by omega) x1 ?_)
      | (refine PickW.rec Rqt.cells_length ps[s].2 (by omega) x2 ?_)
      | (refine ⟨⟨_, f1, ?_⟩⟩)
      | (refine ⟨⟨_, f2, ?_⟩⟩)
      | (refine ⟨⟨_, g1, ?_⟩⟩)
      | (refine ⟨⟨_, g2, ?_⟩⟩)
      | (refine Cmp.ff hne ?_)
      | (refine Cmp.tt x3 ?_)
      | (refine Cmp.tt hkd ?_)
      | (refine Cmp.tt x5' ?_)
      | (refine Cmp.tt x6 ?_)
      | (refine Cmp.tt x7 ?_)
      | (rw [hmi])
      | (simp only [Evl.idsAll, Evl.idsO, ids_keysI, List.nil_append])
      | (refine hfound _ _ ?_)
      | (refine LoopW.to ih rfl rfl))
  · have e : s = ps.length := by omega
    subst e
    rw [List.take_length]
    repeat' ((conv => whnf); first
    | refine Br.tt ?_
    | refine Br.ff ?_
    | refine Need.w ?_
    | refine Wr.w ?_
    | refine Cmp.t ?_
    | refine Cmp.f ?_
    | refine Rem.w ?_
    | refine Quo.w ?_
    | refine PickV.now rfl ?_
    | refine Pick.now rfl ?_
    | refine Chk.mk rfl ?_
    | refine PickW.w rfl ?_
      | (exact hk))
theorem links_last {l : List Rqt} {n4 n5 c : Nat} {x4 x5 : List D} {ks : List Int} (hl : l.length ≤ 6) (hin : ∀ i (h : i < l.length), l[i].li ≠ [] ↔ (i : Int) ∈ ks) (K : Ex → Env → Mem → Prop)
    (hk : K (.exit 6) [(13, .mp ⟨0, 102, 0⟩), (223, LQ l), (224, I l.length), (225, I l.length), (226, B false)]
      [(⟨0, 3, 0⟩, rw13 0 []), (⟨0, 4, 0⟩, rw13 n4 x4), (⟨0, 39, c⟩, rw13 n5 x5), (⟨0, 102, 0⟩, .map (keysI ks))]) :
    LoopW E ⟨0, 1⟩ [13, 223, 224, 225] [⟨0, 3, 0⟩, ⟨0, 4, 0⟩, ⟨0, 39, c⟩, ⟨0, 102, 0⟩] b_law02_MessageLinks_4
      [(13, .mp ⟨0, 102, 0⟩), (223, LQ l), (224, I l.length), (225, I 0)]
      [(⟨0, 3, 0⟩, rw13 0 []), (⟨0, 4, 0⟩, rw13 n4 x4), (⟨0, 39, c⟩, rw13 n5 x5), (⟨0, 102, 0⟩, .map (keysI ks))] K := by
  refine LoopW.to (LoopW.up g (fun k => [(13, .mp ⟨0, 102, 0⟩), (223, LQ l), (224, I l.length), (225, I k)])
    (fun _ => [(⟨0, 3, 0⟩, rw13 0 []), (⟨0, 4, 0⟩, rw13 n4 x4), (⟨0, 39, c⟩, rw13 n5 x5), (⟨0, 102, 0⟩, .map (keysI ks))]) l.length (fun k hk2 ih => ?_) 0 (Nat.zero_le _)) rfl rfl
  have hmi := mem_39 c
  by_cases hlt : k < l.length
  · have ih := ih hlt
    have hi := hin k hlt
    have f1 := find_keysI k ks
    by_cases h0 : l[k].li = []
    · rw [if_neg (fun h => hi.2 h h0)] at f1
      repeat' ((conv => whnf); first
      | refine Br.tt ?_
      | refine Br.ff ?_
      | refine Need.w ?_
      | refine Wr.w ?_
      | refine Cmp.t ?_
      | refine Cmp.f ?_
      | refine Rem.w ?_
      | refine Quo.w ?_
      | refine PickV.now rfl ?_
      | refine Pick.now rfl ?_
      | refine Chk.mk rfl ?_
      | refine PickW.w rfl ?_
        | (refine PickW.rec Rqt.cells_length k (by omega) hlt ?_)
        | (refine Cmp.tt h0 ?_)
        | (refine ⟨⟨_, f1, ?_⟩⟩)
        | (rw [hmi])
        | (simp only [Evl.idsAll, Evl.idsO, ids_keysI, List.nil_append])
        | (refine LoopW.to ih rfl rfl))
    · rw [if_pos (hi.1 h0)] at f1
      repeat' ((conv => whnf); first
      | refine Br.tt ?_
      | refine Br.ff ?_
      | refine Need.w ?_
      | refine Wr.w ?_
      | refine Cmp.t ?_
      | refine Cmp.f ?_
      | refine Rem.w ?_
      | refine Quo.w ?_
      | refine PickV.now rfl ?_
      | refine Pick.now rfl ?_
      | refine Chk.mk rfl ?_
      | refine PickW.w rfl ?_
        | (refine PickW.rec Rqt.cells_length k (by omega) hlt ?_)
        | (refine Cmp.ff h0 ?_)
        | (refine ⟨⟨_, f1, ?_⟩⟩)
        | (rw [hmi])
        | (simp only [Evl.idsAll, Evl.idsO, ids_keysI, List.nil_append])
        | (refine LoopW.to ih rfl rfl))
  · have e : k = l.length := by omega
    subst e
    repeat' ((conv => whnf); first
    | refine Br.tt ?_
    | refine Br.ff ?_
    | refine Need.w ?_
    | refine Wr.w ?_
    | refine Cmp.t ?_
    | refine Cmp.f ?_
    | refine Rem.w ?_
    | refine Quo.w ?_
    | refine PickV.now rfl ?_
    | refine Pick.now rfl ?_
    | refine Chk.mk rfl ?_
    | refine PickW.w rfl ?_
      | (exact hk))
set_option maxHeartbeats 8000000 in
theorem w_MessageLinks (l : List Rqt) : Fc E n_law02_MessageLinks [LQ l] (B true) := by
  have aw := s_awake g
  by_cases hl : l.length ≤ 6
  · have cq := r_CheckRequests g l (by omega)
    by_cases hz : chkRqs l = 0
    · rw [hz] at cq
      obtain ⟨-, hu, hv⟩ := chkRqs_zero hz
      have cl := w_copied g l (by omega)
      have hrl : l.reverse.length = l.length := List.length_reverse
      have hfl : (freeL l).length = l.length := by simp [freeL]
      have p1 := s_Pairs g l (by omega)
      have p2 := s_Pairs g l.reverse (by omega)
      have p3 := s_Pairs g (freeL l) (by omega)
      rw [if_pos hz] at p1
      rw [if_pos (rev_chk hz)] at p2
      rw [if_pos (freeL_chk hz), free_pairs] at p3
      by_cases h0 : l.length = 0
      · obtain rfl := List.eq_nil_of_length_eq_zero h0
        refine g.fn code_law02_MessageLinks rfl ?_
        repeat' ((conv => whnf); first
        | refine Br.tt ?_
        | refine Br.ff ?_
        | refine Need.w ?_
        | refine Wr.w ?_
        | refine Cmp.t ?_
        | refine Cmp.f ?_
        | refine Rem.w ?_
        | refine Quo.w ?_
        | refine PickV.now rfl ?_
        | refine Pick.now rfl ?_
        | refine Chk.mk rfl ?_
        | refine PickW.w rfl ?_
          | (apply CallI.of; assumption)
          | (refine LoopW.step g.lim ?_)
          | (refine Ret.mk rfl))
      obtain ⟨c, hn⟩ : ∃ c, l.length = c + 1 := ⟨l.length - 1, by omega⟩
      have hbv : bkV l.length = .ref ⟨0, 39, c⟩ 0 (c + 1) (c + 1) := by rw [hn]; rfl
      have hbm : bkM l l.length = [(⟨0, 3, 0⟩, rw13 0 []), (⟨0, 4, 0⟩, rw13 (c + 1) ((freeL l).flatMap Rqt.cells)), (⟨0, 39, c⟩, rw13 (c + 1) (l.reverse.flatMap Rqt.cells))] := by
        unfold bkM
        rw [List.take_length, hn]; rfl
      have hlp := fun K => @links_loop E g l hl K
      have hmi := mem_39 c
      have hid : idB ⟨0, 39, c⟩ ⟨0, 39, c⟩ = true := by simp [idB]
      simp only [hbv, hbm] at hlp
      have q2 : ∀ {R : V} (w : List D), Fc E n_message_Pairs [LQ l.reverse] R → Fc E n_message_Pairs [.d (.list (c + 1) (if 0 = 0 ∧ c + 1 = c + 1 then l.reverse.flatMap Rqt.cells else w))] R := by
        intro R w h; rw [if_pos ⟨rfl, rfl⟩, ← hn, ← hrl]; exact h
      have q3 : ∀ {R : V} (w : List D), Fc E n_message_Pairs [LQ (freeL l)] R → Fc E n_message_Pairs [.d (.list l.length (if 0 = 0 ∧ l.length = c + 1 then (freeL l).flatMap Rqt.cells else w))] R := by
        intro R w h; rw [if_pos ⟨rfl, hn⟩, ← hfl]; exact h
      refine g.fn code_law02_MessageLinks rfl ?_
      by_cases hp : OkP l l
      · rw [prsG_ok hu _ _ _ hp, List.nil_append] at p1
        rw [prsG_ok (rev_uniq hu) _ _ _ (rev_okP.2 hp), List.nil_append] at p2
        have e1 := prL_len (l := l) (m := l) l 0
        have e2 := prL_len (l := l.reverse) (m := l) l.reverse 0
        have e3 : (l.filter isA).length ≤ l.length := List.length_filter_le _ _
        have e4 : (prL l.reverse 0 l.reverse).length = (prL l 0 l).length := by rw [e1, e2, List.filter_reverse, List.length_reverse]
        have hki : ∀ x ∈ l, x.ki = [65] ∨ x.ki = [68] := fun x hx => (rq_ok (hv x hx)).ki
        have hnm : ∀ x ∈ l, x.nm ≠ [] := fun x hx => (rq_ok (hv x hx)).nm
        have hin : ∀ i (h : i < l.length), l[i].li ≠ [] ↔ (i : Int) ∈ ksP (prL l 0 l) := fun i h => (in_pair hu hki hnm hp h).trans (ksP_mem _ i).symm
        have hps := fun K n4 n5 x4 x5 => @links_pairs E g l _ _ n4 n5 c x4 x5 hl (by omega) (by omega) hu hki hp rfl rfl K
        have hla := fun K n4 n5 x4 x5 => @links_last E g l n4 n5 c x4 x5 _ hl hin K
        replace p1 : Fc E n_message_Pairs [LQ l] (.tup [LP (prL l 0 l), I 0]) := p1
        replace p2 : Fc E n_message_Pairs [LQ l.reverse] (.tup [LP (prL l.reverse 0 l.reverse), I 0]) := p2
        generalize prL l.reverse 0 l.reverse = r at *
        generalize prL l 0 l = ps at *
        repeat' ((conv => whnf); first
        | refine Br.tt ?_
        | refine Br.ff ?_
        | refine Need.w ?_
        | refine Wr.w ?_
        | refine Cmp.t ?_
        | refine Cmp.f ?_
        | refine Rem.w ?_
        | refine Quo.w ?_
        | refine PickV.now rfl ?_
        | refine Pick.now rfl ?_
        | refine Chk.mk rfl ?_
        | refine PickW.w rfl ?_
          | (apply CallI.of; assumption)
          | (refine hlp _ ?_)
          | (rw [hid])
          | (rw [hmi])
          | (refine CallI.of (q2 _ p2) ?_)
          | (refine CallI.of (q3 _ p3) ?_)
          | (refine hps _ _ _ _ _ ?_)
          | (refine hla _ _ _ _ _ ?_)
          | (refine Ret.mk rfl))
      · have b1 := prsG_bad (l := l) l [] 0 hp
        have b2 := prsG_bad (l := l.reverse) l.reverse [] 0 (mt rev_okP.1 hp)
        rcases b1 with b1 | b1
        all_goals rcases b2 with b2 | b2
        all_goals (rw [b1] at p1; rw [b2] at p2)
        all_goals (repeat' ((conv => whnf); first
        | refine Br.tt ?_
        | refine Br.ff ?_
        | refine Need.w ?_
        | refine Wr.w ?_
        | refine Cmp.t ?_
        | refine Cmp.f ?_
        | refine Rem.w ?_
        | refine Quo.w ?_
        | refine PickV.now rfl ?_
        | refine Pick.now rfl ?_
        | refine Chk.mk rfl ?_
        | refine PickW.w rfl ?_
          | (apply CallI.of; assumption)
          | (refine hlp _ ?_)
          | (rw [hid])
          | (rw [hmi])
          | (refine CallI.of (q2 _ p2) ?_)
          | (refine CallI.of (q3 _ p3) ?_)
          | (refine Ret.mk rfl)))
    · have hz2 : chkRqs l ≠ 0 := hz
      generalize chkRqs l = c at *
      refine g.fn code_law02_MessageLinks rfl ?_
      repeat' ((conv => whnf); first
      | refine Br.tt ?_
      | refine Br.ff ?_
      | refine Need.w ?_
      | refine Wr.w ?_
      | refine Cmp.t ?_
      | refine Cmp.f ?_
      | refine Rem.w ?_
      | refine Quo.w ?_
      | refine PickV.now rfl ?_
      | refine Pick.now rfl ?_
      | refine Chk.mk rfl ?_
      | refine PickW.w rfl ?_
        | (apply CallI.of; assumption)
        | (refine Ret.mk rfl))
  · refine g.fn code_law02_MessageLinks rfl ?_
    repeat' ((conv => whnf); first
    | refine Br.tt ?_
    | refine Br.ff ?_
    | refine Need.w ?_
    | refine Wr.w ?_
    | refine Cmp.t ?_
    | refine Cmp.f ?_
    | refine Rem.w ?_
    | refine Quo.w ?_
    | refine PickV.now rfl ?_
    | refine Pick.now rfl ?_
    | refine Chk.mk rfl ?_
    | refine PickW.w rfl ?_
      | (apply CallI.of; assumption)
      | (refine Ret.mk rfl))
end
theorem s_MessageLinks {E : Oracle} (g : Good E) {xs : List D} (h : fitArgs Tryz.prog [43] xs) : Fc E n_law02_MessageLinks (asV xs) (B true) := by
  obtain ⟨x, rfl, h1⟩ := args1 h
  obtain ⟨l, rfl⟩ := arg_Requests h1
  exact w_MessageLinks g l
end Go.Proofs.YtddpjjaebkaggaaGreatDoor.Co
