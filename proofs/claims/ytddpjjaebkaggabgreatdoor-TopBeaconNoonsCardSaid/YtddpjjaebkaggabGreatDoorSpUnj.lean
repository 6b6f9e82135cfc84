
/-
  Universal, the calls: the program's and the reference's.
-/
import Derived.Test.YtddpjjaebkaggabGreatDoorSpUni
namespace Go.Proofs.YtddpjjaebkaggabGreatDoor.Co
open Go Go.Evl
theorem uniA_length (o : Int) (l : List (Int × Int)) (m : Int) : (uniA o l m).length ≤ l.length + 1 := by
  unfold uniA
  exact Nat.le_trans (ddL_le _ _) (uniL_length o l m _)
theorem intsOf_map : ∀ l : List Int, Evl.intsOf (l.map DI) = some l
  | [] => rfl
  | x :: r => by
    show (Evl.intsOf (r.map DI)).map (x :: ·) = _
    rw [intsOf_map r]; rfl
def offsL (o : Int) (l : List (Int × Int)) (k : Nat) : List Int := (List.range k).map (offK o l)
theorem offsL_succ (o : Int) (l : List (Int × Int)) (k : Nat) : offsL o l (k + 1) = offsL o l k ++ [offK o l k] := by simp [offsL, List.range_succ]
theorem offsL_length (o : Int) (l : List (Int × Int)) (k : Nat) : (offsL o l k).length = k := by simp [offsL]
theorem offsL_get (o : Int) (l : List (Int × Int)) (k i : Nat) (h : i < k) : (offsL o l k).getD i 0 = offK o l i := by simp [offsL, List.getD, h]
theorem offK_range {o : Int} {l : List (Int × Int)} (h : chkZone o l = 0) : ∀ k, k ≤ l.length → -720 ≤ offK o l k ∧ offK o l k ≤ 840
  | 0, _ => (chkZone_zero.1 h).1
  | k + 1, hk => (errZ_zero.1 ((chkZone_zero.1 h).2.2 k (by omega))).2.1
section
variable {E : Oracle} (g : Good E)
include g
omit g in
theorem upd_same {o : Evl.Id} {x : Evl.Ob} : ∀ {m : Mem}, Evl.look m o = some x → upd m o x = m
  | [], h => by cases h
  | (j, y) :: r, h => by
    simp only [Evl.look] at h
    simp only [upd]
    split
    · rename_i e
      rw [if_pos e] at h
      rw [Option.some.inj h, e]
    · rename_i e
      rw [if_neg e] at h
      rw [upd_same h]
theorem sortIn {o : Evl.Id} {t n : Nat} {xs : List Int} {m : Mem} {K : V → Mem → Prop} {lv : Nat} (hl : Evl.look m o = some (Evl.Ob.row true t 1 n (xs.map DI))) (hn : n = xs.length) (hs : n < 4611686018427387904)
    (hk : K (.tup []) (upd m o (.row true t 1 n ((Evl.sortI xs).map DI)))) : In E lv n_slices_Sort_Lint_int [.ref o 0 n n] m K := by
  by_cases h0 : n = 0
  · have hx : xs = [] := List.eq_nil_of_length_eq_zero (by omega)
    subst hx
    subst h0
    rw [show Evl.sortI [] = [] from rfl, upd_same hl] at hk
    refine In.extern g.lim (x := Evl.sortX) rfl ?_ hk
    show (match Evl.look m o with | some (.row true t 1 n xs) => _ | _ => none) = _
    rw [hl]
    rfl
  · refine In.extern g.lim (x := Evl.sortX) rfl ?_ hk
    show (match Evl.look m o with | some (.row true t 1 n' xs) => (if n = 0 ∧ n = 0 ∧ n' = 0 then some (V.tup [], m) else if n = n' ∧ n = n' ∧ n' ≠ 0 ∧ n' < 4611686018427387904 then (match Evl.intsOf xs with | some zs => some (V.tup [], upd m o (.row true t 1 n' ((Evl.sortI zs).map (.int .i64)))) | none => none) else none) | _ => none) = _
    rw [hl]
    simp [intsOf_map, h0, hs]
set_option maxHeartbeats 4000000 in
theorem s_Universal_ok (o : Int) (l : List (Int × Int)) (m : Int) (hl : l.length ≤ 1048576) (hz : chkZone o l = 0) (hm : rng m 0 143999999 = 0) : Fc E n_calendar_Universal [Zo o l, I m] (.tup [LI (uniA o l m), I (if uniA o l m = [] then 7 else 0)]) := by
  refine g.fn code_calendar_Universal rfl ?_
  have c1 := s_CheckZone g o l hl
  have c2 := s_checkMoment g m
  have hm' := rng_zero.1 hm
  have hz64 := (chkZone_zero.1 hz).2.1
  have c3 : Fc E n_calendar_first [.d (.list 2 [DI 0, DI 0])] (I 0) := s_first2 g 0 0
  rw [hz] at c1
  rw [hm] at c2
  repeat' ((conv => whnf); first
  | refine Br.tt ?_
  | refine Br.ff ?_
  | refine Need.w ?_
  | refine Wr.w ?_
  | refine Cmp.t ?_
  | refine Cmp.f ?_
  | refine Rem.w ?_
  | refine Quo.w ?_
  | refine PickV.now rfl ?_
  | refine Pick.now rfl ?_
  | refine Chk.mk rfl ?_
  | refine PickW.w rfl ?_
    | (apply CallI.of; assumption))
  refine LoopW.to (LoopW.up g (fun k => [(1, I m), (2, .ptr ⟨0, 2, 0⟩ 0 0), (7, .ref ⟨0, 25, 0⟩ 0 (k + 1) (k + 1)), (27, .d (.list l.length (l.flatMap cellC))), (28, I l.length), (29, I k)]) (fun k => [(⟨0, 2, 0⟩, .cells ty_calendar_Zone [I o, .d (.list l.length (l.flatMap cellC))]), (⟨0, 4, 0⟩, .row true ty_int 1 0 []), (⟨0, 25, 0⟩, .row false ty_int 1 (k + 1) ((offsL o l (k + 1)).map DI))]) l.length (fun k hk ih => ?_) 0 (Nat.zero_le _)) rfl rfl
  by_cases hlt : k < l.length
  · have hs := @offK_succ o l k hlt
    repeat' ((conv => whnf); first
    | refine Br.tt ?_
    | refine Br.ff ?_
    | refine Need.w ?_
    | refine Wr.w ?_
    | refine Cmp.t ?_
    | refine Cmp.f ?_
    | refine Rem.w ?_
    | refine Quo.w ?_
    | refine PickV.now rfl ?_
    | refine Pick.now rfl ?_
    | refine Chk.mk rfl ?_
    | refine PickW.w rfl ?_
      | (refine PickW.rec cellC_len k (by omega) hlt ?_)
      | (refine LoopW.to (ih hlt) rfl ?_))
    rw [offsL_succ o l (k + 1), hs, List.map_append]
    rfl
  · have hk' : k = l.length := by omega
    subst hk'
    have hol := offsL_length o l (l.length + 1)
    repeat' ((conv => whnf); first
    | refine Br.tt ?_
    | refine Br.ff ?_
    | refine Need.w ?_
    | refine Wr.w ?_
    | refine Cmp.t ?_
    | refine Cmp.f ?_
    | refine Rem.w ?_
    | refine Quo.w ?_
    | refine PickV.now rfl ?_
    | refine Pick.now rfl ?_
    | refine Chk.mk rfl ?_
    | refine PickW.w rfl ?_)
    refine LoopW.to (LoopW.up g (fun k => [(1, I m), (2, .ptr ⟨0, 2, 0⟩ 0 0), (10, .ref ⟨0, 10, 0⟩ 0 (uniL o l m k).length (uniL o l m k).length), (39, .ref ⟨0, 25, 0⟩ 0 (l.length + 1) (l.length + 1)), (40, I (l.length + 1 : Nat)), (41, I k)]) (fun k => [(⟨0, 2, 0⟩, .cells ty_calendar_Zone [I o, .d (.list l.length (l.flatMap cellC))]), (⟨0, 4, 0⟩, .row true ty_int 1 0 []), (⟨0, 25, 0⟩, .row false ty_int 1 (l.length + 1) ((offsL o l (l.length + 1)).map DI)), (⟨0, 10, 0⟩, .row true ty_int 1 (uniL o l m k).length ((uniL o l m k).map DI))]) (l.length + 1) (fun k hk ih => ?_) 0 (Nat.zero_le _)) rfl rfl
    by_cases hlt : k < l.length + 1
    · have hr := offK_range hz k (by omega)
      have hg := offsL_get o l _ k hlt
      have hul := uniL_length o l m k
      have c4 := s_checkMoment g (m - offK o l k)
      have c5 := s_at g o l (m - offK o l k) hl
      have hu : uniL o l m (k + 1) = uniL o l m k ++ if rng (m - offK o l k) 0 143999999 = 0 ∧ atN o l (m - offK o l k) l.length = offK o l k then [m - offK o l k] else [] := rfl
      have z := @rng_zero (m - offK o l k) 0 143999999
      have hpick : ∀ {K : D → Prop}, K (DI (offK o l k)) → Pick ((offsL o l (l.length + 1)).map DI) ((0 + (k : Int).toNat) * 1) K := fun hK => Pick.at k (by omega) (by omega) (by rw [hg]; exact hK)
      generalize rng (m - offK o l k) 0 143999999 = c at *
      generalize atN o l (m - offK o l k) l.length = a at *
      generalize offK o l k = q at *
      by_cases h1 : c = 0
      · by_cases h2 : a = q
        · repeat' ((conv => whnf); first
        | refine Br.tt ?_
        | refine Br.ff ?_
        | refine Need.w ?_
        | refine Wr.w ?_
        | refine Cmp.t ?_
        | refine Cmp.f ?_
        | refine Rem.w ?_
        | refine Quo.w ?_
        | refine PickV.now rfl ?_
        | refine Pick.now rfl ?_
        | refine Chk.mk rfl ?_
        | refine PickW.w rfl ?_
            | (apply CallI.of; assumption)
            | (refine hpick ?_)
            | (refine LoopW.to (ih hlt) ?_ ?_))
          all_goals (rw [hu, if_pos ⟨h1, h2⟩]; simp)
        · repeat' ((conv => whnf); first
        | refine Br.tt ?_
        | refine Br.ff ?_
        | refine Need.w ?_
        | refine Wr.w ?_
        | refine Cmp.t ?_
        | refine Cmp.f ?_
        | refine Rem.w ?_
        | refine Quo.w ?_
        | refine PickV.now rfl ?_
        | refine Pick.now rfl ?_
        | refine Chk.mk rfl ?_
        | refine PickW.w rfl ?_
            | (apply CallI.of; assumption)
            | (refine hpick ?_)
            | (refine LoopW.to (ih hlt) ?_ ?_))
          all_goals (rw [hu, if_neg (fun h => h2 h.2)]; simp)
      · repeat' ((conv => whnf); first
      | refine Br.tt ?_
      | refine Br.ff ?_
      | refine Need.w ?_
      | refine Wr.w ?_
      | refine Cmp.t ?_
      | refine Cmp.f ?_
      | refine Rem.w ?_
      | refine Quo.w ?_
      | refine PickV.now rfl ?_
      | refine Pick.now rfl ?_
      | refine Chk.mk rfl ?_
      | refine PickW.w rfl ?_
          | (apply CallI.of; assumption)
          | (refine hpick ?_)
          | (refine LoopW.to (ih hlt) ?_ ?_))
        all_goals (rw [hu, if_neg (fun h => h1 h.1)]; simp)
    · have hk' : k = l.length + 1 := by omega
      subst hk'
      have hul := uniL_length o l m (l.length + 1)
      have hsl := (Evl.sortI_perm (uniL o l m (l.length + 1))).length_eq
      have hA : uniA o l m = ddL (Evl.sortI (uniL o l m (l.length + 1))) (uniL o l m (l.length + 1)).length := rfl
      have k1 : ∀ {K : V → Mem → Prop} {A B0 C0 : Evl.Ob}, (∀ xs : List D, xs.length = (uniL o l m (l.length + 1)).length → xs.take (uniA o l m).length = (uniA o l m).map DI → K (.ref ⟨0, 10, 0⟩ 0 (uniA o l m).length (uniL o l m (l.length + 1)).length) [(⟨0, 2, 0⟩, A), (⟨0, 4, 0⟩, B0), (⟨0, 25, 0⟩, C0), (⟨0, 10, 0⟩, .row true ty_int 1 (uniL o l m (l.length + 1)).length xs), (⟨1, 2, 0⟩, .row true ty_int 1 0 [])]) →
          In E 1 n_slices_Compact_Lint_int [.ref ⟨0, 10, 0⟩ 0 (uniL o l m (l.length + 1)).length (uniL o l m (l.length + 1)).length] [(⟨0, 2, 0⟩, A), (⟨0, 4, 0⟩, B0), (⟨0, 25, 0⟩, C0), (⟨0, 10, 0⟩, .row true ty_int 1 (uniL o l m (l.length + 1)).length ((Evl.sortI (uniL o l m (l.length + 1))).map DI))] K := by
        intro K A B0 C0 hK
        have := s_Compact g (Evl.sortI (uniL o l m (l.length + 1))) A B0 C0 K
        rw [hsl, ← hA] at this
        exact this hK (by omega)
      generalize uniL o l m (l.length + 1) = u at *
      generalize uniA o l m = a at *
      have hlen : ∀ xs : List D, xs.length = u.length → xs.take a.length = a.map DI → a.length ≤ u.length := fun xs h1 h2 => by
        have := congrArg List.length h2
        simp only [List.length_take, List.length_map] at this
        omega
      have hwin : ∀ xs : List D, xs.length = u.length → xs.take a.length = a.map DI → (if 0 = 0 ∧ a.length = u.length then xs else win xs (0 * 1) (a.length * 1)) = a.map DI := fun xs h1 h2 => by
        split
        · rename_i h; rw [← h2, h.2, ← h1, List.take_length]
        · simpa [win] using h2
      cases a with
      | nil =>
        repeat' ((conv => whnf); first
        | refine Br.tt ?_
        | refine Br.ff ?_
        | refine Need.w ?_
        | refine Wr.w ?_
        | refine Cmp.t ?_
        | refine Cmp.f ?_
        | refine Rem.w ?_
        | refine Quo.w ?_
        | refine PickV.now rfl ?_
        | refine Pick.now rfl ?_
        | refine Chk.mk rfl ?_
        | refine PickW.w rfl ?_
          | (refine sortIn g (xs := u) rfl rfl (by omega) ?_)
          | (refine k1 (fun xs h1 h2 => ?_); have h3 := hlen xs h1 h2; have h4 := hwin xs h1 h2)
          | (refine Some'.mk ⟨(.ref ⟨0, 10, 0⟩ 0 _ u.length, [(⟨0, 2, 0⟩, _), (⟨0, 4, 0⟩, _), (⟨0, 25, 0⟩, _), (⟨0, 10, 0⟩, .row true ty_int 1 u.length xs)]), rfl, ?_⟩)
          | (refine CallI.of (s_when g _ _) ?_)
          | (refine Ret.mk ?_))
        exact congrArg (fun z => V.tup [.d (.list _ z), I 7]) h4
      | cons x r =>
        repeat' ((conv => whnf); first
        | refine Br.tt ?_
        | refine Br.ff ?_
        | refine Need.w ?_
        | refine Wr.w ?_
        | refine Cmp.t ?_
        | refine Cmp.f ?_
        | refine Rem.w ?_
        | refine Quo.w ?_
        | refine PickV.now rfl ?_
        | refine Pick.now rfl ?_
        | refine Chk.mk rfl ?_
        | refine PickW.w rfl ?_
          | (refine sortIn g (xs := u) rfl rfl (by omega) ?_)
          | (refine k1 (fun xs h1 h2 => ?_); have h3 := hlen xs h1 h2; have h4 := hwin xs h1 h2)
          | (refine Some'.mk ⟨(.ref ⟨0, 10, 0⟩ 0 _ u.length, [(⟨0, 2, 0⟩, _), (⟨0, 4, 0⟩, _), (⟨0, 25, 0⟩, _), (⟨0, 10, 0⟩, .row true ty_int 1 u.length xs)]), rfl, ?_⟩)
          | (refine CallI.of (s_when g _ _) ?_)
          | (refine Cmp.ff (by simp; omega) ?_)
          | (refine Ret.mk ?_))
        rw [show (if (x :: r) = [] then (7 : Int) else 0) = 0 from if_neg (by simp)]
        exact congrArg (fun z => V.tup [.d (.list _ z), I 0]) h4
theorem s_Universal_bad (o : Int) (l : List (Int × Int)) (m : Int) (hl : l.length ≤ 1048576) (h : firstI [chkZone o l, rng m 0 143999999] ≠ 0) : Fc E n_calendar_Universal [Zo o l, I m] (.tup [LI [], I (firstI [chkZone o l, rng m 0 143999999])]) := by
  refine g.fn code_calendar_Universal rfl ?_
  repeat' ((conv => whnf); first
  | refine Br.tt ?_
  | refine Br.ff ?_
  | refine Need.w ?_
  | refine Wr.w ?_
  | refine Cmp.t ?_
  | refine Cmp.f ?_
  | refine Rem.w ?_
  | refine Quo.w ?_
  | refine PickV.now rfl ?_
  | refine Pick.now rfl ?_
  | refine Chk.mk rfl ?_
  | refine PickW.w rfl ?_
    | (refine CallI.of (s_CheckZone g o l hl) ?_)
    | (refine CallI.of (s_checkMoment g _) ?_)
    | (refine CallI.of (s_first2 g _ _) ?_)
    | (refine Ret.mk rfl))
end
end Go.Proofs.YtddpjjaebkaggabGreatDoor.Co
