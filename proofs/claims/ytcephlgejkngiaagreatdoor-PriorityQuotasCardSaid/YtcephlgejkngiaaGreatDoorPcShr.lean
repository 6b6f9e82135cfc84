
/-
  Priority: the order of a list by a share; by the program and by the reference.
-/
import Derived.Test.YtcephlgejkngiaaGreatDoorPcFit
import Derived.Test.YtcephlgejkngiaaGreatDoorPlSht
namespace Go.Proofs.YtcephlgejkngiaaGreatDoor.Co
open Go Go.Evl
set_option maxRecDepth 100000
abbrev LB (l : List Bool) : V := .d (.list l.length (l.map D.bool))
theorem fit_bools {k : Nat} : ∀ (m : Nat) {ds : List D}, fitAll (fit Tryz.prog (k + 1)) (List.replicate m 4) ds → ∃ l : List Bool, ds = l.map D.bool ∧ l.length = m
  | 0, ds, h => ⟨[], h, rfl⟩
  | m + 1, ds, h => by
    obtain ⟨a, b, rfl, h1, h2⟩ := h
    obtain ⟨x, rfl⟩ := fit_bo h1
    obtain ⟨l, rfl, h3⟩ := fit_bools m h2
    exact ⟨x :: l, rfl, by simp [h3]⟩
theorem arg_bools {x : D} (h : fitArg Tryz.prog 61 x) : ∃ l : List Bool, x = .list l.length (l.map D.bool) ∧ l.length ≤ 9223372036854775807 := by
  obtain ⟨m, cs, rfl, h1, h2⟩ := arg_l Tryz.underlying61 h
  obtain ⟨l, rfl, rfl⟩ := fit_bools m h2
  exact ⟨l, rfl, Nat.le_trans h1 (by decide)⟩
def chkSh (m fo : Int) (n : Nat) : Int := firstI [rng m 1 100, rng fo 0 m, if 64 < n then 5 else 0]
theorem chkSh_zero {m fo : Int} {n : Nat} (h : chkSh m fo n = 0) : (1 ≤ m ∧ m ≤ 100) ∧ (0 ≤ fo ∧ fo ≤ m) ∧ n ≤ 64 := by
  unfold chkSh at h
  rw [firstI_zero] at h
  have h3 := h (if 64 < n then 5 else 0) (by simp)
  refine ⟨rng_zero.1 (h _ (by simp)), rng_zero.1 (h _ (by simp)), Classical.byContradiction fun hn => ?_⟩
  rw [if_pos (by omega)] at h3
  cases h3
theorem Pick.boolI {l : List Bool} {i : Int} {K : D → Prop} (k : Nat) (hi : i = k) (h : k < l.length) (hk : K (.bool l[k])) : Pick (l.map D.bool) (i.toNat * 1) K := by
  subst hi
  refine ⟨⟨_, ?_, hk⟩⟩
  simp [h]
theorem Pick.boolI0 {l : List Bool} {i : Int} {K : D → Prop} (k : Nat) (hi : i = k) (h : k < l.length) (hk : K (.bool l[k])) : Pick (l.map D.bool) ((0 + i.toNat) * 1) K := by
  rw [Nat.zero_add]; exact Pick.boolI k hi h hk
def leftV (t : Bool) (o : Evl.Id) (A0 A : List Int) : V := if t = true then LI A else .ref o 0 A0.length A0.length
theorem take_map (l : List Int) : List.take l.length (l.map DI) = l.map DI := List.take_of_length_le (by simp)
theorem patchB (l : List Bool) (i : Nat) (v : Bool) (h : i < l.length) : patch (l.map D.bool) i [D.bool v] = (l.set i v).map D.bool := by
  unfold patch
  rw [List.set_eq_take_append_cons_drop, if_pos h]
  simp
theorem rem_val {l T : List Bool} {v : Bool} {k : Nat} {x : Int} (h : x ∈ remG v k (l.drop k) (T.drop k)) : ∃ p : Nat, x = p ∧ p < l.length ∧ l.getD x.toNat false = v := by
  obtain ⟨i, rfl, h1, _⟩ := remG_mem h
  rw [List.getElem?_drop] at h1
  refine ⟨k + i, rfl, (List.getElem?_eq_some_iff.1 h1).1, ?_⟩
  rw [Int.toNat_natCast, List.getD, h1]
  rfl
theorem best_val (l T : List Bool) (w : Bool) (k : Nat) : bestQ (remG w k (l.drop k) (T.drop k)) (remG (!w) k (l.drop k) (T.drop k)) = -1 ∨ ∃ p : Nat, bestQ (remG w k (l.drop k) (T.drop k)) (remG (!w) k (l.drop k) (T.drop k)) = p ∧ p < l.length := by
  cases h : remG w k (l.drop k) (T.drop k) with
  | cons x r =>
    obtain ⟨p, h1, h2, _⟩ := rem_val (l := l) (T := T) (k := k) (v := w) (x := x) (by rw [h]; simp)
    exact .inr ⟨p, h1, h2⟩
  | nil =>
    cases h' : remG (!w) k (l.drop k) (T.drop k) with
    | cons x r =>
      obtain ⟨p, h1, h2, _⟩ := rem_val (l := l) (T := T) (k := k) (v := !w) (x := x) (by rw [h']; simp)
      exact .inr ⟨p, h1, h2⟩
    | nil => exact .inl rfl
structure ShR where
  i : Nat
  T : List Bool
  out : List Int
structure ShS where
  i : Nat
  (A C : List Int)
  (ta tc : Bool)
  out : List Int
section
variable {E : Oracle} (g : Good E)
include g
set_option maxHeartbeats 32000000 in
theorem s_interleaved (m fo : Int) (l : List Bool) (hm : 1 ≤ m ∧ m ≤ 100) (hl : l.length ≤ 64) : Fc E n_priority_interleaved [I m, I fo, LB l] (LI (shrL m fo l)) := by
  refine g.fn code_priority_interleaved rfl ?_
  have b0 : Fc E n_priority_bit [B false] (I 0) := s_pbit g false
  have b1 : Fc E n_priority_bit [B true] (I 1) := s_pbit g true
  have hAC := selG_length 0 l
  unfold shrL
  repeat' ((conv => whnf); first
  | refine Br.tt ?_ | refine Br.ff ?_ | refine Need.w ?_ | refine Wr.w ?_ | refine Cmp.t ?_ | refine Cmp.f ?_ | refine Rem.w ?_ | refine Quo.w ?_ | refine PickV.now rfl ?_ | refine Pick.now rfl ?_ | refine Chk.mk rfl ?_ | refine PickW.w rfl ?_)
  refine LoopW.to (LoopW.up g (fun k => [(0, I m), (1, I fo), (2, LB l), (7, .ptr ⟨0, 7, 2⟩ 0 0), (13, LB l), (14, I l.length), (15, I k)])
    (fun k => [(⟨0, 6, 0⟩, .row false ty_int 1 0 []), (⟨0, 7, 0⟩, .row false ty_int 1 (selG true 0 (l.take k)).length ((selG true 0 (l.take k)).map DI)), (⟨0, 7, 1⟩, .row false ty_int 1 (selG false 0 (l.take k)).length ((selG false 0 (l.take k)).map DI)), (⟨0, 7, 2⟩, .cells ty_2_Lint [.ref ⟨0, 7, 0⟩ 0 (selG true 0 (l.take k)).length (selG true 0 (l.take k)).length, .ref ⟨0, 7, 1⟩ 0 (selG false 0 (l.take k)).length (selG false 0 (l.take k)).length])])
    l.length (fun k hk ih => ?_) 0 (Nat.zero_le _)) rfl rfl
  have l1 := selG_le true 0 (l.take k)
  have l2 := selG_le false 0 (l.take k)
  have l3 : (l.take k).length = k := by simp; omega
  by_cases hlt : k < l.length
  · have ih := ih hlt
    rw [selG_take true hlt, selG_take false hlt] at ih
    generalize hx : l[k] = x at *
    generalize selG true 0 (l.take k) = A at *
    generalize selG false 0 (l.take k) = C at *
    cases x
    · simp only [reduceCtorEq, if_false, if_true, List.append_nil, List.length_append, List.length_cons, List.length_nil, List.map_append, List.map_cons, List.map_nil] at ih
      repeat' ((conv => whnf); first
      | refine Br.tt ?_ | refine Br.ff ?_ | refine Need.w ?_ | refine Wr.w ?_ | refine Cmp.t ?_ | refine Cmp.f ?_ | refine Rem.w ?_ | refine Quo.w ?_ | refine PickV.now rfl ?_ | refine Pick.now rfl ?_ | refine Chk.mk rfl ?_ | refine PickW.w rfl ?_
        | (refine Pick.boolI k rfl hlt ?_; rw [hx])
        | (apply CallI.of; assumption)
        | (refine Need.mk (by simp only [List.length_cons, List.length_nil, List.length_map]; omega) ?_)
        | (refine LoopW.to ih rfl rfl))
    · simp only [reduceCtorEq, if_false, if_true, List.append_nil, List.length_append, List.length_cons, List.length_nil, List.map_append, List.map_cons, List.map_nil] at ih
      repeat' ((conv => whnf); first
      | refine Br.tt ?_ | refine Br.ff ?_ | refine Need.w ?_ | refine Wr.w ?_ | refine Cmp.t ?_ | refine Cmp.f ?_ | refine Rem.w ?_ | refine Quo.w ?_ | refine PickV.now rfl ?_ | refine Pick.now rfl ?_ | refine Chk.mk rfl ?_ | refine PickW.w rfl ?_
        | (refine Pick.boolI k rfl hlt ?_; rw [hx])
        | (apply CallI.of; assumption)
        | (refine Need.mk (by simp only [List.length_cons, List.length_nil, List.length_map]; omega) ?_)
        | (refine LoopW.to ih rfl rfl))
  · have hk' : k = l.length := by omega
    subst hk'
    rw [List.take_length] at *
    generalize hA0 : selG true 0 l = A0 at *
    generalize hC0 : selG false 0 l = C0 at *
    generalize hR : shrG m fo l.length 0 A0 C0 = R
    repeat' ((conv => whnf); first
    | refine Br.tt ?_ | refine Br.ff ?_ | refine Need.w ?_ | refine Wr.w ?_ | refine Cmp.t ?_ | refine Cmp.f ?_ | refine Rem.w ?_ | refine Quo.w ?_ | refine PickV.now rfl ?_ | refine Pick.now rfl ?_ | refine Chk.mk rfl ?_ | refine PickW.w rfl ?_)
    refine LoopW.to (LoopW.by g (fun s : ShS => s.out ++ shrG m fo (l.length - s.i) s.i s.A s.C = R ∧ s.A.length + s.C.length + s.i = l.length ∧ s.out.length = s.i ∧ (s.ta = false → s.A = A0) ∧ (s.tc = false → s.C = C0))
      (fun s => [(0, I m), (1, I fo), (7, .ptr ⟨0, 7, 2⟩ 0 0), (10, .ref ⟨0, 10, 0⟩ 0 s.out.length s.out.length), (34, I l.length), (35, I s.i)])
      (fun s => [(⟨0, 6, 0⟩, .row false ty_int 1 0 []), (⟨0, 7, 0⟩, .row false ty_int 1 A0.length (A0.map DI)), (⟨0, 7, 1⟩, .row false ty_int 1 C0.length (C0.map DI)), (⟨0, 7, 2⟩, .cells ty_2_Lint [leftV s.ta ⟨0, 7, 0⟩ A0 s.A, leftV s.tc ⟨0, 7, 1⟩ C0 s.C]), (⟨0, 10, 0⟩, .row false ty_int 1 s.out.length (s.out.map DI))])
      (fun s => l.length - s.i) (fun s hs ih => ?_) ⟨0, A0, C0, false, false, []⟩ ⟨by simpa using hR, by simpa using hAC, rfl, fun _ => rfl, fun _ => rfl⟩) rfl rfl
    obtain ⟨i, A, C, ta, tc, out⟩ := s
    obtain ⟨h1, h2, h3, h4, h5⟩ := hs
    dsimp only at h1 h2 h3 h4 h5 ih ⊢
    by_cases hlt : i < l.length
    · obtain ⟨x, A', C', hp⟩ := pickQ_some (w := decide ((i : Int) % m < fo)) (A := A) (C := C) (by omega)
      have hn : l.length - i = (l.length - (i + 1)) + 1 := by omega
      rw [hn, shrG, hp] at h1
      have hq := pickQ_len hp
      have ihn := ih ⟨i + 1, A', C', true, tc, out ++ [x]⟩
      have iho := ih ⟨i + 1, A', C', ta, true, out ++ [x]⟩
      dsimp only at ihn iho
      have hw := Int.emod_nonneg (i : Int) (show m ≠ 0 by omega)
      rcases pickQ_cases hp with ⟨rfl, rfl, hc⟩ | ⟨rfl, rfl, hc⟩
      · have ihn := ihn ⟨by simpa using h1, by omega, by simp [h3], by simp, h5⟩ (by omega)
        simp only [List.length_append, List.length_cons, List.length_nil, List.map_append, List.map_cons, List.map_nil] at ihn
        cases ta
        · have h4 := h4 rfl
          subst h4
          cases hwd : decide ((i : Int) % m < fo)
          · have hwf := of_decide_eq_false hwd
            rw [hwd] at hc
            have hc : C' = [] := by simpa using hc
            subst hc
            cases tc
            · have h5 := h5 rfl
              subst h5
              repeat' ((conv => whnf); first
              | refine Br.tt ?_ | refine Br.ff ?_ | refine Need.w ?_ | refine Wr.w ?_ | refine Cmp.t ?_ | refine Cmp.f ?_ | refine Rem.w ?_ | refine Quo.w ?_ | refine PickV.now rfl ?_ | refine Pick.now rfl ?_ | refine Chk.mk rfl ?_ | refine PickW.w rfl ?_
                | (apply CallI.of; assumption)
                | (refine Need.mk (by simp only [List.length_cons, List.length_nil, List.length_map]; omega) ?_)
                | (refine Bounds.at 1 (A'.length + 1) rfl rfl ⟨by omega, by simp⟩ ?_)
                | (refine LoopW.to ihn rfl ?_))
              simp [leftV, win, take_map]
            · repeat' ((conv => whnf); first
            | refine Br.tt ?_ | refine Br.ff ?_ | refine Need.w ?_ | refine Wr.w ?_ | refine Cmp.t ?_ | refine Cmp.f ?_ | refine Rem.w ?_ | refine Quo.w ?_ | refine PickV.now rfl ?_ | refine Pick.now rfl ?_ | refine Chk.mk rfl ?_ | refine PickW.w rfl ?_
                | (apply CallI.of; assumption)
                | (refine Need.mk (by simp only [List.length_cons, List.length_nil, List.length_map]; omega) ?_)
                | (refine Bounds.at 1 (A'.length + 1) rfl rfl ⟨by omega, by simp⟩ ?_)
                | (refine LoopW.to ihn rfl ?_))
              simp [leftV, win, take_map]
          · have hwf := of_decide_eq_true hwd
            cases tc
            · have h5 := h5 rfl
              subst h5
              repeat' ((conv => whnf); first
              | refine Br.tt ?_ | refine Br.ff ?_ | refine Need.w ?_ | refine Wr.w ?_ | refine Cmp.t ?_ | refine Cmp.f ?_ | refine Rem.w ?_ | refine Quo.w ?_ | refine PickV.now rfl ?_ | refine Pick.now rfl ?_ | refine Chk.mk rfl ?_ | refine PickW.w rfl ?_
                | (apply CallI.of; assumption)
                | (refine Need.mk (by simp only [List.length_cons, List.length_nil, List.length_map]; omega) ?_)
                | (refine Bounds.at 1 (A'.length + 1) rfl rfl ⟨by omega, by simp⟩ ?_)
                | (refine LoopW.to ihn rfl ?_))
              simp [leftV, win, take_map]
            · repeat' ((conv => whnf); first
            | refine Br.tt ?_ | refine Br.ff ?_ | refine Need.w ?_ | refine Wr.w ?_ | refine Cmp.t ?_ | refine Cmp.f ?_ | refine Rem.w ?_ | refine Quo.w ?_ | refine PickV.now rfl ?_ | refine Pick.now rfl ?_ | refine Chk.mk rfl ?_ | refine PickW.w rfl ?_
                | (apply CallI.of; assumption)
                | (refine Need.mk (by simp only [List.length_cons, List.length_nil, List.length_map]; omega) ?_)
                | (refine Bounds.at 1 (A'.length + 1) rfl rfl ⟨by omega, by simp⟩ ?_)
                | (refine LoopW.to ihn rfl ?_))
              simp [leftV, win, take_map]
        · cases hwd : decide ((i : Int) % m < fo)
          · have hwf := of_decide_eq_false hwd
            rw [hwd] at hc
            have hc : C' = [] := by simpa using hc
            subst hc
            cases tc
            · have h5 := h5 rfl
              subst h5
              repeat' ((conv => whnf); first
              | refine Br.tt ?_ | refine Br.ff ?_ | refine Need.w ?_ | refine Wr.w ?_ | refine Cmp.t ?_ | refine Cmp.f ?_ | refine Rem.w ?_ | refine Quo.w ?_ | refine PickV.now rfl ?_ | refine Pick.now rfl ?_ | refine Chk.mk rfl ?_ | refine PickW.w rfl ?_
                | (apply CallI.of; assumption)
                | (refine Need.mk (by simp only [List.length_cons, List.length_nil, List.length_map]; omega) ?_)
                | (refine Bounds.at 1 (A'.length + 1) rfl rfl ⟨by omega, by simp⟩ ?_)
                | (refine LoopW.to ihn rfl ?_))
              simp [leftV, win, take_map]
            · repeat' ((conv => whnf); first
            | refine Br.tt ?_ | refine Br.ff ?_ | refine Need.w ?_ | refine Wr.w ?_ | refine Cmp.t ?_ | refine Cmp.f ?_ | refine Rem.w ?_ | refine Quo.w ?_ | refine PickV.now rfl ?_ | refine Pick.now rfl ?_ | refine Chk.mk rfl ?_ | refine PickW.w rfl ?_
                | (apply CallI.of; assumption)
                | (refine Need.mk (by simp only [List.length_cons, List.length_nil, List.length_map]; omega) ?_)
                | (refine Bounds.at 1 (A'.length + 1) rfl rfl ⟨by omega, by simp⟩ ?_)
                | (refine LoopW.to ihn rfl ?_))
              simp [leftV, win, take_map]
          · have hwf := of_decide_eq_true hwd
            cases tc
            · have h5 := h5 rfl
              subst h5
              repeat' ((conv => whnf); first
              | refine Br.tt ?_ | refine Br.ff ?_ | refine Need.w ?_ | refine Wr.w ?_ | refine Cmp.t ?_ | refine Cmp.f ?_ | refine Rem.w ?_ | refine Quo.w ?_ | refine PickV.now rfl ?_ | refine Pick.now rfl ?_ | refine Chk.mk rfl ?_ | refine PickW.w rfl ?_
                | (apply CallI.of; assumption)
                | (refine Need.mk (by simp only [List.length_cons, List.length_nil, List.length_map]; omega) ?_)
                | (refine Bounds.at 1 (A'.length + 1) rfl rfl ⟨by omega, by simp⟩ ?_)
                | (refine LoopW.to ihn rfl ?_))
              simp [leftV, win, take_map]
            · repeat' ((conv => whnf); first
            | refine Br.tt ?_ | refine Br.ff ?_ | refine Need.w ?_ | refine Wr.w ?_ | refine Cmp.t ?_ | refine Cmp.f ?_ | refine Rem.w ?_ | refine Quo.w ?_ | refine PickV.now rfl ?_ | refine Pick.now rfl ?_ | refine Chk.mk rfl ?_ | refine PickW.w rfl ?_
                | (apply CallI.of; assumption)
                | (refine Need.mk (by simp only [List.length_cons, List.length_nil, List.length_map]; omega) ?_)
                | (refine Bounds.at 1 (A'.length + 1) rfl rfl ⟨by omega, by simp⟩ ?_)
                | (refine LoopW.to ihn rfl ?_))
              simp [leftV, win, take_map]
      · have iho := iho ⟨by simpa using h1, by omega, by simp [h3], h4, by simp⟩ (by omega)
        simp only [List.length_append, List.length_cons, List.length_nil, List.map_append, List.map_cons, List.map_nil] at iho
        cases tc
        · have h5 := h5 rfl
          subst h5
          cases hwd : decide ((i : Int) % m < fo)
          · have hwf := of_decide_eq_false hwd
            cases ta
            · have h4 := h4 rfl
              subst h4
              repeat' ((conv => whnf); first
              | refine Br.tt ?_ | refine Br.ff ?_ | refine Need.w ?_ | refine Wr.w ?_ | refine Cmp.t ?_ | refine Cmp.f ?_ | refine Rem.w ?_ | refine Quo.w ?_ | refine PickV.now rfl ?_ | refine Pick.now rfl ?_ | refine Chk.mk rfl ?_ | refine PickW.w rfl ?_
                | (apply CallI.of; assumption)
                | (refine Need.mk (by simp only [List.length_cons, List.length_nil, List.length_map]; omega) ?_)
                | (refine Bounds.at 1 (C'.length + 1) rfl rfl ⟨by omega, by simp⟩ ?_)
                | (refine LoopW.to iho rfl ?_))
              simp [leftV, win, take_map]
            · repeat' ((conv => whnf); first
            | refine Br.tt ?_ | refine Br.ff ?_ | refine Need.w ?_ | refine Wr.w ?_ | refine Cmp.t ?_ | refine Cmp.f ?_ | refine Rem.w ?_ | refine Quo.w ?_ | refine PickV.now rfl ?_ | refine Pick.now rfl ?_ | refine Chk.mk rfl ?_ | refine PickW.w rfl ?_
                | (apply CallI.of; assumption)
                | (refine Need.mk (by simp only [List.length_cons, List.length_nil, List.length_map]; omega) ?_)
                | (refine Bounds.at 1 (C'.length + 1) rfl rfl ⟨by omega, by simp⟩ ?_)
                | (refine LoopW.to iho rfl ?_))
              simp [leftV, win, take_map]
          · have hwf := of_decide_eq_true hwd
            rw [hwd] at hc
            have hc : A' = [] := by simpa using hc
            subst hc
            cases ta
            · have h4 := h4 rfl
              subst h4
              repeat' ((conv => whnf); first
              | refine Br.tt ?_ | refine Br.ff ?_ | refine Need.w ?_ | refine Wr.w ?_ | refine Cmp.t ?_ | refine Cmp.f ?_ | refine Rem.w ?_ | refine Quo.w ?_ | refine PickV.now rfl ?_ | refine Pick.now rfl ?_ | refine Chk.mk rfl ?_ | refine PickW.w rfl ?_
                | (apply CallI.of; assumption)
                | (refine Need.mk (by simp only [List.length_cons, List.length_nil, List.length_map]; omega) ?_)
                | (refine Bounds.at 1 (C'.length + 1) rfl rfl ⟨by omega, by simp⟩ ?_)
                | (refine LoopW.to iho rfl ?_))
              simp [leftV, win, take_map]
            · repeat' ((conv => whnf); first
            | refine Br.tt ?_ | refine Br.ff ?_ | refine Need.w ?_ | refine Wr.w ?_ | refine Cmp.t ?_ | refine Cmp.f ?_ | refine Rem.w ?_ | refine Quo.w ?_ | refine PickV.now rfl ?_ | refine Pick.now rfl ?_ | refine Chk.mk rfl ?_ | refine PickW.w rfl ?_
                | (apply CallI.of; assumption)
                | (refine Need.mk (by simp only [List.length_cons, List.length_nil, List.length_map]; omega) ?_)
                | (refine Bounds.at 1 (C'.length + 1) rfl rfl ⟨by omega, by simp⟩ ?_)
                | (refine LoopW.to iho rfl ?_))
              simp [leftV, win, take_map]
        · cases hwd : decide ((i : Int) % m < fo)
          · have hwf := of_decide_eq_false hwd
            cases ta
            · have h4 := h4 rfl
              subst h4
              repeat' ((conv => whnf); first
              | refine Br.tt ?_ | refine Br.ff ?_ | refine Need.w ?_ | refine Wr.w ?_ | refine Cmp.t ?_ | refine Cmp.f ?_ | refine Rem.w ?_ | refine Quo.w ?_ | refine PickV.now rfl ?_ | refine Pick.now rfl ?_ | refine Chk.mk rfl ?_ | refine PickW.w rfl ?_
                | (apply CallI.of; assumption)
                | (refine Need.mk (by simp only [List.length_cons, List.length_nil, List.length_map]; omega) ?_)
                | (refine Bounds.at 1 (C'.length + 1) rfl rfl ⟨by omega, by simp⟩ ?_)
                | (refine LoopW.to iho rfl ?_))
              simp [leftV, win, take_map]
            · repeat' ((conv => whnf); first
            | refine Br.tt ?_ | refine Br.ff ?_ | refine Need.w ?_ | refine Wr.w ?_ | refine Cmp.t ?_ | refine Cmp.f ?_ | refine Rem.w ?_ | refine Quo.w ?_ | refine PickV.now rfl ?_ | refine Pick.now rfl ?_ | refine Chk.mk rfl ?_ | refine PickW.w rfl ?_
                | (apply CallI.of; assumption)
                | (refine Need.mk (by simp only [List.length_cons, List.length_nil, List.length_map]; omega) ?_)
                | (refine Bounds.at 1 (C'.length + 1) rfl rfl ⟨by omega, by simp⟩ ?_)
                | (refine LoopW.to iho rfl ?_))
              simp [leftV, win, take_map]
          · have hwf := of_decide_eq_true hwd
            rw [hwd] at hc
            have hc : A' = [] := by simpa using hc
            subst hc
            cases ta
            · have h4 := h4 rfl
              subst h4
              repeat' ((conv => whnf); first
              | refine Br.tt ?_ | refine Br.ff ?_ | refine Need.w ?_ | refine Wr.w ?_ | refine Cmp.t ?_ | refine Cmp.f ?_ | refine Rem.w ?_ | refine Quo.w ?_ | refine PickV.now rfl ?_ | refine Pick.now rfl ?_ | refine Chk.mk rfl ?_ | refine PickW.w rfl ?_
                | (apply CallI.of; assumption)
                | (refine Need.mk (by simp only [List.length_cons, List.length_nil, List.length_map]; omega) ?_)
                | (refine Bounds.at 1 (C'.length + 1) rfl rfl ⟨by omega, by simp⟩ ?_)
                | (refine LoopW.to iho rfl ?_))
              simp [leftV, win, take_map]
            · repeat' ((conv => whnf); first
            | refine Br.tt ?_ | refine Br.ff ?_ | refine Need.w ?_ | refine Wr.w ?_ | refine Cmp.t ?_ | refine Cmp.f ?_ | refine Rem.w ?_ | refine Quo.w ?_ | refine PickV.now rfl ?_ | refine Pick.now rfl ?_ | refine Chk.mk rfl ?_ | refine PickW.w rfl ?_
                | (apply CallI.of; assumption)
                | (refine Need.mk (by simp only [List.length_cons, List.length_nil, List.length_map]; omega) ?_)
                | (refine Bounds.at 1 (C'.length + 1) rfl rfl ⟨by omega, by simp⟩ ?_)
                | (refine LoopW.to iho rfl ?_))
              simp [leftV, win, take_map]
    · have e : l.length - i = 0 := by omega
      rw [e, shrG, List.append_nil] at h1
      subst h1
      repeat' ((conv => whnf); first
      | refine Br.tt ?_ | refine Br.ff ?_ | refine Need.w ?_ | refine Wr.w ?_ | refine Cmp.t ?_ | refine Cmp.f ?_ | refine Rem.w ?_ | refine Quo.w ?_ | refine PickV.now rfl ?_ | refine Pick.now rfl ?_ | refine Chk.mk rfl ?_ | refine PickW.w rfl ?_
        | (refine Ret.mk ?_))
      rw [if_pos ⟨rfl, rfl⟩]
set_option maxHeartbeats 32000000 in
theorem r_Interleave (m fo : Int) (l : List Bool) (hm : 1 ≤ m ∧ m ≤ 100) (hl : l.length ≤ 64) : Fc E n_ref05_Interleave [I m, I fo, LB l] (LI (shrL m fo l)) := by
  refine g.fn code_ref05_Interleave rfl ?_
  have hAC := selG_length 0 l
  unfold shrL
  rw [← remG_sel, ← remG_sel]
  rw [← remG_sel, ← remG_sel] at hAC
  generalize hR : shrG m fo l.length 0 (remG true 0 l (List.replicate l.length false)) (remG false 0 l (List.replicate l.length false)) = R
  repeat' ((conv => whnf); first
  | refine Br.tt ?_ | refine Br.ff ?_ | refine Need.w ?_ | refine Wr.w ?_ | refine Cmp.t ?_ | refine Cmp.f ?_ | refine Rem.w ?_ | refine Quo.w ?_ | refine PickV.now rfl ?_ | refine Pick.now rfl ?_ | refine Chk.mk rfl ?_ | refine PickW.w rfl ?_
    | (refine Need.mk ⟨by omega, rfl, by omega, by omega⟩ ?_))
  refine LoopW.to (LoopW.by g (fun s : ShR => s.T.length = l.length ∧ s.out ++ shrG m fo (l.length - s.i) s.i (remG true 0 l s.T) (remG false 0 l s.T) = R ∧ (remG true 0 l s.T).length + (remG false 0 l s.T).length + s.i = l.length ∧ s.out.length = s.i)
    (fun s => [(0, I m), (1, I fo), (2, LB l), (7, .ref ⟨0, 7, 0⟩ 0 s.out.length s.out.length), (8, .ref ⟨0, 15, 0⟩ 0 l.length l.length), (9, I s.i)])
    (fun s => [(⟨0, 6, 0⟩, .row false ty_int 1 0 []), (⟨0, 7, 0⟩, .row false ty_int 1 s.out.length (s.out.map DI)), (⟨0, 15, 0⟩, .row true ty_bool 1 l.length (s.T.map D.bool))])
    (fun s => l.length - s.i) (fun s hs ih => ?_) ⟨0, List.replicate l.length false, []⟩ ⟨by simp, by simpa using hR, by simpa using hAC, rfl⟩) rfl ?_
  · obtain ⟨i, T, out⟩ := s
    obtain ⟨h0, h1, h2, h3⟩ := hs
    dsimp only at h0 h1 h2 h3 ih ⊢
    by_cases hlt : i < l.length
    · obtain ⟨x, A', C', hp⟩ := pickQ_some (w := decide ((i : Int) % m < fo)) (A := remG true 0 l T) (C := remG false 0 l T) (by omega)
      have hn : l.length - i = (l.length - (i + 1)) + 1 := by omega
      rw [hn, shrG, hp] at h1
      have hq := pickQ_len hp
      obtain ⟨q, rfl, q1, q2, q3, q4⟩ := pickQ_rem hp
      have hbest := pickQ_best hp
      have ihn := ih ⟨i + 1, T.set q true, out ++ [(q : Int)]⟩
      dsimp only at ihn
      rw [q3, q4] at ihn
      have ihn := ihn ⟨by simpa using h0, by simpa using h1, by omega, by simp [h3]⟩ (by omega)
      simp only [List.length_append, List.length_cons, List.length_nil, List.map_append, List.map_cons, List.map_nil] at ihn
      have hw := Int.emod_nonneg (i : Int) (show m ≠ 0 by omega)
      generalize hwd : decide ((i : Int) % m < fo) = w at *
      have hbest : bestQ (remG w 0 l T) (remG (!w) 0 l T) = (q : Int) := by cases w <;> exact hbest
      have hset := patchB T q true (by omega)
      repeat' ((conv => whnf); first
      | refine Br.tt ?_ | refine Br.ff ?_ | refine Need.w ?_ | refine Wr.w ?_ | refine Cmp.t ?_ | refine Cmp.f ?_ | refine Rem.w ?_ | refine Quo.w ?_ | refine PickV.now rfl ?_ | refine Pick.now rfl ?_ | refine Chk.mk rfl ?_ | refine PickW.w rfl ?_)
      refine LoopW.to (LoopW.up g (fun j => [(0, I m), (1, I fo), (2, LB l), (7, .ref ⟨0, 7, 0⟩ 0 out.length out.length), (8, .ref ⟨0, 15, 0⟩ 0 l.length l.length), (9, I i), (10, I (bestQ (remG w (l.length - j) (l.drop (l.length - j)) (T.drop (l.length - j))) (remG (!w) (l.length - j) (l.drop (l.length - j)) (T.drop (l.length - j))))), (11, I ((l.length : Int) - 1 - j))])
        (fun _ => _) l.length (fun j hj jh => ?_) 0 (Nat.zero_le _)) ?_ rfl
      · by_cases hjl : j < l.length
        · replace jh := jh hjl
          obtain ⟨k, hk⟩ : ∃ k, l.length - j = k + 1 := ⟨l.length - j - 1, by omega⟩
          have hk1 : l.length - (j + 1) = k := by omega
          have hk2 : (l.length : Int) - 1 - j = k := by omega
          have hk3 : (l.length : Int) - 1 - (j + 1 : Nat) = (k : Int) - 1 := by omega
          have hkl : k < l.length := by omega
          have hkT : k < T.length := by omega
          have hst := bestQ_step w l[k] T[k] k (l.drop (k + 1)) (T.drop (k + 1)) (fun x => l.getD x.toNat false) (fun x hx => by obtain ⟨_, _, _, h⟩ := rem_val hx; exact h) (fun x hx => by obtain ⟨_, _, _, h⟩ := rem_val hx; exact h)
          rw [← List.drop_eq_getElem_cons hkl, ← List.drop_eq_getElem_cons hkT] at hst
          have hov := best_val l T w (k + 1)
          rw [hk1, hk3] at jh
          rw [hk, hk2]
          dsimp only at hst
          generalize bestQ (remG w (k + 1) (l.drop (k + 1)) (T.drop (k + 1))) (remG (!w) (k + 1) (l.drop (k + 1)) (T.drop (k + 1))) = o at *
          generalize bestQ (remG w k (l.drop k) (T.drop k)) (remG (!w) k (l.drop k) (T.drop k)) = o' at *
          generalize hx : l[k] = v at *
          generalize hy : T[k] = t at *
          cases t
          · rw [if_neg (by decide)] at hst
            rcases hov with rfl | ⟨p, rfl, hpl⟩
            · rw [if_pos (.inl (by decide))] at hst
              subst hst
              cases v <;> cases w
              all_goals
                first | have hwf := of_decide_eq_true hwd | have hwf := of_decide_eq_false hwd
                repeat' ((conv => whnf); first
                | refine Br.tt ?_ | refine Br.ff ?_ | refine Need.w ?_ | refine Wr.w ?_ | refine Cmp.t ?_ | refine Cmp.f ?_ | refine Rem.w ?_ | refine Quo.w ?_ | refine PickV.now rfl ?_ | refine Pick.now rfl ?_ | refine Chk.mk rfl ?_ | refine PickW.w rfl ?_
                  | (refine Pick.boolI k rfl hkl ?_; rw [hx])
                  | (refine Pick.boolI0 k rfl hkT ?_; rw [hy])
                  | (refine LoopW.to jh rfl rfl))
            · have hpd : l.getD ((p : Int)).toNat false = l[p] := by rw [Int.toNat_natCast, List.getD, List.getElem?_eq_getElem hpl]; rfl
              rw [hpd] at hst
              generalize hz : l[p] = z at *
              have hp0 : ¬ (p : Int) < 0 := by omega
              cases v <;> cases w <;> cases z
              all_goals
                simp only [hp0, reduceCtorEq, or_true, or_false, if_true, if_false] at hst
                subst hst
                first | have hwf := of_decide_eq_true hwd | have hwf := of_decide_eq_false hwd
                repeat' ((conv => whnf); first
                | refine Br.tt ?_ | refine Br.ff ?_ | refine Need.w ?_ | refine Wr.w ?_ | refine Cmp.t ?_ | refine Cmp.f ?_ | refine Rem.w ?_ | refine Quo.w ?_ | refine PickV.now rfl ?_ | refine Pick.now rfl ?_ | refine Chk.mk rfl ?_ | refine PickW.w rfl ?_
                  | (refine Pick.boolI k rfl hkl ?_; rw [hx])
                  | (refine Pick.boolI p rfl hpl ?_; rw [hz])
                  | (refine Pick.boolI0 k rfl hkT ?_; rw [hy])
                  | (refine LoopW.to jh rfl rfl))
          · rw [if_pos rfl] at hst
            subst hst
            repeat' ((conv => whnf); first
            | refine Br.tt ?_ | refine Br.ff ?_ | refine Need.w ?_ | refine Wr.w ?_ | refine Cmp.t ?_ | refine Cmp.f ?_ | refine Rem.w ?_ | refine Quo.w ?_ | refine PickV.now rfl ?_ | refine Pick.now rfl ?_ | refine Chk.mk rfl ?_ | refine PickW.w rfl ?_
              | (refine Pick.boolI0 k rfl hkT ?_; rw [hy])
              | (refine LoopW.to jh rfl rfl))
        · have hj' : j = l.length := by omega
          subst hj'
          rw [Nat.sub_self, List.drop_zero, List.drop_zero, hbest]
          repeat' ((conv => whnf); first
          | refine Br.tt ?_ | refine Br.ff ?_ | refine Need.w ?_ | refine Wr.w ?_ | refine Cmp.t ?_ | refine Cmp.f ?_ | refine Rem.w ?_ | refine Quo.w ?_ | refine PickV.now rfl ?_ | refine Pick.now rfl ?_ | refine Chk.mk rfl ?_ | refine PickW.w rfl ?_
            | (refine Need.mk (by simp only [List.length_cons, List.length_nil, List.length_map]; omega) ?_)
            | (refine LoopW.to ihn rfl ?_))
          simp only [Nat.zero_add, Nat.mul_one, Int.toNat_natCast]
          rw [hset]
          rfl
      · simp [List.drop_of_length_le, h0, remG, bestQ]
    · have e : l.length - i = 0 := by omega
      rw [e, shrG, List.append_nil] at h1
      subst h1
      repeat' ((conv => whnf); first
      | refine Br.tt ?_ | refine Br.ff ?_ | refine Need.w ?_ | refine Wr.w ?_ | refine Cmp.t ?_ | refine Cmp.f ?_ | refine Rem.w ?_ | refine Quo.w ?_ | refine PickV.now rfl ?_ | refine Pick.now rfl ?_ | refine Chk.mk rfl ?_ | refine PickW.w rfl ?_
        | (refine Ret.mk ?_))
      rw [if_pos ⟨rfl, rfl⟩]
  · simp
theorem s_Interleave_ok (m fo : Int) (l : List Bool) (h : chkSh m fo l.length = 0) : Fc E n_priority_Interleave [I m, I fo, LB l] (.tup [LI (shrL m fo l), I 0]) := by
  have hz := chkSh_zero h
  have h1 := s_pwithin g m 1 100
  have h2 := s_pwithin g fo 0 m
  have h3 := s_pfirst3 g (rng m 1 100) (rng fo 0 m) (if 64 < l.length then 5 else 0)
  have h4 := s_interleaved g m fo l hz.1 hz.2.2
  have hl := hz.2.2
  refine g.fn code_priority_Interleave rfl ?_
  rw [show firstI _ = 0 from h, if_neg (by omega)] at h3
  generalize rng m 1 100 = a at *
  generalize rng fo 0 m = b at *
  repeat' ((conv => whnf); first
  | refine Br.tt ?_ | refine Br.ff ?_ | refine Need.w ?_ | refine Wr.w ?_ | refine Cmp.t ?_ | refine Cmp.f ?_ | refine Rem.w ?_ | refine Quo.w ?_ | refine PickV.now rfl ?_ | refine Pick.now rfl ?_ | refine Chk.mk rfl ?_ | refine PickW.w rfl ?_
    | (apply CallI.of; assumption)
    | (refine CallI.of (s_pwhen g _ _) ?_)
    | (refine Ret.mk rfl))
theorem s_Interleave_bad (m fo : Int) (l : List Bool) (hl : l.length ≤ 65) (h : chkSh m fo l.length ≠ 0) : Fc E n_priority_Interleave [I m, I fo, LB l] (.tup [.d (.list 0 []), I (chkSh m fo l.length)]) := by
  have h1 := s_pwithin g m 1 100
  have h2 := s_pwithin g fo 0 m
  have h3 := s_pfirst3 g (rng m 1 100) (rng fo 0 m) (if 64 < l.length then 5 else 0)
  refine g.fn code_priority_Interleave rfl ?_
  unfold chkSh at *
  by_cases hm : 64 < l.length
  · rw [if_pos hm] at h h3 ⊢
    generalize firstI [rng m 1 100, rng fo 0 m, 5] = r at *
    generalize rng m 1 100 = a at *
    generalize rng fo 0 m = b at *
    repeat' ((conv => whnf); first
    | refine Br.tt ?_ | refine Br.ff ?_ | refine Need.w ?_ | refine Wr.w ?_ | refine Cmp.t ?_ | refine Cmp.f ?_ | refine Rem.w ?_ | refine Quo.w ?_ | refine PickV.now rfl ?_ | refine Pick.now rfl ?_ | refine Chk.mk rfl ?_ | refine PickW.w rfl ?_
      | (apply CallI.of; assumption)
      | (refine CallI.of (s_pwhen g _ _) ?_)
      | (refine Cmp.tt h ?_)
      | (refine Ret.mk rfl))
  · rw [if_neg hm] at h h3 ⊢
    generalize firstI [rng m 1 100, rng fo 0 m, 0] = r at *
    generalize rng m 1 100 = a at *
    generalize rng fo 0 m = b at *
    repeat' ((conv => whnf); first
    | refine Br.tt ?_ | refine Br.ff ?_ | refine Need.w ?_ | refine Wr.w ?_ | refine Cmp.t ?_ | refine Cmp.f ?_ | refine Rem.w ?_ | refine Quo.w ?_ | refine PickV.now rfl ?_ | refine Pick.now rfl ?_ | refine Chk.mk rfl ?_ | refine PickW.w rfl ?_
      | (apply CallI.of; assumption)
      | (refine CallI.of (s_pwhen g _ _) ?_)
      | (refine Cmp.tt h ?_)
      | (refine Ret.mk rfl))
end
end Go.Proofs.YtcephlgejkngiaaGreatDoor.Co
