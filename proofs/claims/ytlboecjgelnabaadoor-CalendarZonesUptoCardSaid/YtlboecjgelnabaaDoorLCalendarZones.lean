
/-
  CalendarZones returns true, for every zone, moment and year.
-/
import Derived.Test.YtlboecjgelnabaaDoorFit
import Derived.Test.YtlboecjgelnabaaDoorPlZones
import Derived.Test.YtlboecjgelnabaaDoorSpLaw
import Derived.Test.YtlboecjgelnabaaDoorAwake
namespace Go.Proofs.YtlboecjgelnabaaDoor.Co
open Go Go.Evl
set_option maxRecDepth 100000

theorem inL_set {l : List Int} {n : Int} : ∀ k, k ≤ l.length → (∀ i, i < k → l.getD i 0 ≠ n) ∨ ∃ i, i < k ∧ l.getD i 0 = n
  | 0, _ => .inl fun i h => by omega
  | k + 1, hk => by
    rcases inL_set (l := l) (n := n) k (by omega) with h | ⟨i, h1, h2⟩
    · by_cases e : l.getD k 0 = n
      · exact .inr ⟨k, by omega, e⟩
      · refine .inl fun i hi => ?_
        by_cases e2 : i = k
        · subst e2; exact e
        · exact h i (by omega)
    · exact .inr ⟨i, by omega, h2⟩

section
variable {E : Oracle} (g : Good E)
include g

theorem r_HasInt (l : List Int) (n : Int) (hl : l.length ≤ 140737488355328) (h : n ∈ l) : Fc E n_ref01_HasInt [LI l, I n] (B true) := by
  refine g.fn code_ref01_HasInt rfl ?_
  conv => whnf
  refine LoopW.upP g (fun k => [(0, LI l), (1, I n), (5, I k)]) (fun _ => []) (fun k => ∀ i, i < k → l.getD i 0 ≠ n) l.length (fun k hk hp ih => ?_) 0 (Nat.zero_le _) (fun i hi => by omega)
  by_cases hlt : k < l.length
  · by_cases e : l.getD k 0 = n
    · repeat' ((conv => whnf); first
      | (refine Br.tt ?_)
      | (refine Br.ff ?_)
      | (refine Need.mk (by first | omega | (simp; done) | (simp; omega)) ?_)
      | (refine Wr.keep (by omega) ?_)
      | (refine Cmp.tt (by first | omega | decide) ?_)
      | (refine Cmp.ff (by first | omega | decide) ?_)
      | (refine Rem.pos (by omega) ?_)
      | (refine Quo.pos (by omega) ?_)
      | (refine PickV.now rfl ?_)
      | (refine Pick.now rfl ?_)
      | (refine PickW.now (by first | omega | decide) rfl ?_)
        | (refine Pick.at k (by omega) hlt ?_)
        | (refine Cmp.tt e ?_)
        | (refine Ret.mk rfl))
    · repeat' ((conv => whnf); first
      | (refine Br.tt ?_)
      | (refine Br.ff ?_)
      | (refine Need.mk (by first | omega | (simp; done) | (simp; omega)) ?_)
      | (refine Wr.keep (by omega) ?_)
      | (refine Cmp.tt (by first | omega | decide) ?_)
      | (refine Cmp.ff (by first | omega | decide) ?_)
      | (refine Rem.pos (by omega) ?_)
      | (refine Quo.pos (by omega) ?_)
      | (refine PickV.now rfl ?_)
      | (refine Pick.now rfl ?_)
      | (refine PickW.now (by first | omega | decide) rfl ?_)
        | (refine Pick.at k (by omega) hlt ?_)
        | (refine Cmp.ff e ?_)
        | (refine LoopW.to (ih hlt ?_) ?_ rfl))
      · intro i hi
        by_cases e2 : i = k
        · subst e2; exact e
        · exact hp i (by omega)
      · rfl
  · exfalso
    obtain ⟨i, hi, e⟩ := List.mem_iff_getElem.1 h
    exact hp i (by omega) (by rw [List.getD, List.getElem?_eq_getElem hi]; exact e)

omit g in
theorem tmod600 (o : Int) (_ : -720 ≤ o ∧ o ≤ 840) : -599 ≤ o.tmod 600 ∧ o.tmod 600 ≤ 599 := by
  rw [Int.tmod_eq_emod]
  split <;> omega

omit g in
/-- What the law asks of a zone's universal moments. -/
theorem uni_own {o : Int} {l : List (Int × Int)} (hz : chkZone o l = 0) {m : Int} (hm : 0 ≤ m ∧ m ≤ 143999999) : (∃ x, uniA o l (m + atN o l m l.length) = [x] ∧ x = m) ∨ (∃ x y, uniA o l (m + atN o l m l.length) = [x, y] ∧ x < y ∧ (m = x ∨ m = y)) := by
  have h1 : m ∈ uniA o l (m + atN o l m l.length) := uniA_mem.2 ⟨hm, rfl⟩
  have h2 := uniA_two hz (m + atN o l m l.length)
  have h3 := uniA_strict o l (m + atN o l m l.length)
  match h : uniA o l (m + atN o l m l.length) with
  | [] => rw [h] at h1; simp at h1
  | [x] => rw [h] at h1; simp at h1; exact .inl ⟨x, rfl, h1.symm⟩
  | [x, y] => rw [h] at h1 h3; simp at h1 h3; exact .inr ⟨x, y, rfl, h3, h1⟩
  | _ :: _ :: _ :: _ => rw [h] at h2; simp at h2

set_option maxHeartbeats 8000000 in
theorem zones_body {o : Int} {l : List (Int × Int)} (hl : l.length ≤ 1048576) (hz : chkZone o l = 0) (m y : Int) (k : Nat) (hlt : k < l.length) (K : Ex → Env → Mem → Prop)
    (ih : LoopW E ⟨0, 1⟩ [1, 2, 3, 121, 122, 123] [⟨0, 3, 0⟩, ⟨0, 7, 0⟩] b_law01_CalendarZones_1 [(1, I m), (2, I y), (3, .ptr ⟨0, 3, 0⟩ 0 0), (121, .d (.list l.length (l.flatMap cellC))), (122, I l.length), (123, I (k + 1 : Nat))] [(⟨0, 3, 0⟩, .cells ty_calendar_Zone [I o, .d (.list l.length (l.flatMap cellC))]), (⟨0, 7, 0⟩, .cells ty_turnroundref01_Zone [I o, .d (.list l.length (l.flatMap cellC))])] K) :
    wpC E ⟨0, 1⟩ b_law01_CalendarZones_1 [(1, I m), (2, I y), (3, .ptr ⟨0, 3, 0⟩ 0 0), (121, .d (.list l.length (l.flatMap cellC))), (122, I l.length), (123, I k)] [(⟨0, 3, 0⟩, .cells ty_calendar_Zone [I o, .d (.list l.length (l.flatMap cellC))]), (⟨0, 7, 0⟩, .cells ty_turnroundref01_Zone [I o, .d (.list l.length (l.flatMap cellC))])]
      (againK E ⟨0, 1⟩ [1, 2, 3, 121, 122, 123] [⟨0, 3, 0⟩, ⟨0, 7, 0⟩] b_law01_CalendarZones_1 K) := by
  have hg := getD_lt hlt
  have hr := offK_range hz k (by omega)
  have ez := errZ_zero.1 ((chkZone_zero.1 hz).2.2 k hlt)
  have hgap := gap hz hlt
  have hdbl := double hz hlt
  obtain ⟨b, hb⟩ : ∃ b, b = offK o l k := ⟨_, rfl⟩
  rw [hg] at ez hgap hdbl
  rw [← hb] at ez hgap hdbl hr
  have hsu : ∀ lo : Int, 0 ≤ lo ∧ lo ≤ 143999999 → Fc E n_calendar_Universal [Zo o l, I lo] (.tup [LI (uniA o l lo), I (if uniA o l lo = [] then 7 else 0)]) := fun lo h => s_Universal_ok g o l lo hl hz (rng_zero.2 h)
  have hmin : ∃ lo : Int, lo = l[k].1 + (if l[k].2 < b then l[k].2 else b) := ⟨_, rfl⟩
  obtain ⟨lo, hlo⟩ := hmin
  by_cases hsk : b = l[k].2 ∨ lo < 0 ∨ 143999999 < lo ∨ l[k].1 < 180
  · cases k with
    | zero =>
      obtain rfl : b = o := hb
      repeat' ((conv => whnf); first
        | (refine Br.tt ?_)
        | (refine Br.ff ?_)
        | (refine Need.mk (by first | omega | (simp; done) | (simp; omega)) ?_)
        | (refine Wr.keep (by omega) ?_)
        | (refine Cmp.tt (by first | omega | decide) ?_)
        | (refine Cmp.ff (by first | omega | decide) ?_)
        | (refine Rem.pos (by omega) ?_)
        | (refine Quo.pos (by omega) ?_)
        | (refine PickV.now rfl ?_)
        | (refine Pick.now rfl ?_)
        | (refine PickW.now (by first | omega | decide) rfl ?_)
        | (refine PickW.rec cellC_len 0 (by omega) hlt ?_)
        | (apply CallI.of; assumption)
        | (refine Cmp.tt (by simp only [List.length_cons, List.length_nil]; omega) ?_)
        | (refine Cmp.ff (by simp only [List.length_cons, List.length_nil]; omega) ?_)
        | (refine Cmp.mk (fun h => ?_) (fun h => ?_))
        | (refine Rem.any (by omega) (fun r hr he => ?_))
        | (refine Br.mk (fun h => ?_) (fun h => ?_))
        | (refine LoopW.to ih rfl rfl))
      all_goals skip
    | succ j =>
      have hj : j < l.length := Nat.lt_of_succ_lt hlt
      obtain rfl : b = (l[j]'hj).2 := hb.trans (offK_succ hj)
      repeat' ((conv => whnf); first
        | (refine Br.tt ?_)
        | (refine Br.ff ?_)
        | (refine Need.mk (by first | omega | (simp; done) | (simp; omega)) ?_)
        | (refine Wr.keep (by omega) ?_)
        | (refine Cmp.tt (by first | omega | decide) ?_)
        | (refine Cmp.ff (by first | omega | decide) ?_)
        | (refine Rem.pos (by omega) ?_)
        | (refine Quo.pos (by omega) ?_)
        | (refine PickV.now rfl ?_)
        | (refine Pick.now rfl ?_)
        | (refine PickW.now (by first | omega | decide) rfl ?_)
        | (refine PickW.rec cellC_len (j + 1) (by omega) hlt ?_)
        | (refine Pick.rec cellC_len j (by omega) hj rfl ?_)
        | (apply CallI.of; assumption)
        | (refine Cmp.tt (by simp only [List.length_cons, List.length_nil]; omega) ?_)
        | (refine Cmp.ff (by simp only [List.length_cons, List.length_nil]; omega) ?_)
        | (refine Cmp.mk (fun h => ?_) (fun h => ?_))
        | (refine Rem.any (by omega) (fun r hr he => ?_))
        | (refine Br.mk (fun h => ?_) (fun h => ?_))
        | (refine LoopW.to ih rfl rfl))
      all_goals skip
  · rcases Int.lt_trichotomy b l[k].2 with hlt2 | heq | hlt2
    · have hu := hsu lo (by omega)
      have e0 : lo = l[k].1 + b := by rw [hlo, if_neg (by omega)]
      have e1 : uniA o l lo = [] := by rw [e0]; exact hgap hlt2
      rw [e1, if_pos rfl, hlo] at hu
      cases k with
      | zero =>
        obtain rfl : b = o := hb
        repeat' ((conv => whnf); first
          | (refine Br.tt ?_)
          | (refine Br.ff ?_)
          | (refine Need.mk (by first | omega | (simp; done) | (simp; omega)) ?_)
          | (refine Wr.keep (by omega) ?_)
          | (refine Cmp.tt (by first | omega | decide) ?_)
          | (refine Cmp.ff (by first | omega | decide) ?_)
          | (refine Rem.pos (by omega) ?_)
          | (refine Quo.pos (by omega) ?_)
          | (refine PickV.now rfl ?_)
          | (refine Pick.now rfl ?_)
          | (refine PickW.now (by first | omega | decide) rfl ?_)
          | (refine PickW.rec cellC_len 0 (by omega) hlt ?_)
          | (apply CallI.of; assumption)
          | (refine Cmp.tt (by simp only [List.length_cons, List.length_nil]; omega) ?_)
          | (refine Cmp.ff (by simp only [List.length_cons, List.length_nil]; omega) ?_)
          | (refine Cmp.mk (fun h => ?_) (fun h => ?_))
          | (refine Rem.any (by omega) (fun r hr he => ?_))
          | (refine Br.mk (fun h => ?_) (fun h => ?_))
          | (refine LoopW.to ih rfl rfl))
        all_goals skip
      | succ j =>
        have hj : j < l.length := Nat.lt_of_succ_lt hlt
        obtain rfl : b = (l[j]'hj).2 := hb.trans (offK_succ hj)
        repeat' ((conv => whnf); first
          | (refine Br.tt ?_)
          | (refine Br.ff ?_)
          | (refine Need.mk (by first | omega | (simp; done) | (simp; omega)) ?_)
          | (refine Wr.keep (by omega) ?_)
          | (refine Cmp.tt (by first | omega | decide) ?_)
          | (refine Cmp.ff (by first | omega | decide) ?_)
          | (refine Rem.pos (by omega) ?_)
          | (refine Quo.pos (by omega) ?_)
          | (refine PickV.now rfl ?_)
          | (refine Pick.now rfl ?_)
          | (refine PickW.now (by first | omega | decide) rfl ?_)
          | (refine PickW.rec cellC_len (j + 1) (by omega) hlt ?_)
          | (refine Pick.rec cellC_len j (by omega) hj rfl ?_)
          | (apply CallI.of; assumption)
          | (refine Cmp.tt (by simp only [List.length_cons, List.length_nil]; omega) ?_)
          | (refine Cmp.ff (by simp only [List.length_cons, List.length_nil]; omega) ?_)
          | (refine Cmp.mk (fun h => ?_) (fun h => ?_))
          | (refine Rem.any (by omega) (fun r hr he => ?_))
          | (refine Br.mk (fun h => ?_) (fun h => ?_))
          | (refine LoopW.to ih rfl rfl))
        all_goals skip
    · omega
    · have hu := hsu lo (by omega)
      have e0 : lo = l[k].1 + l[k].2 := by rw [hlo, if_pos hlt2]
      have e1 : uniA o l lo = [l[k].1 + l[k].2 - b, l[k].1] := by rw [e0]; exact hdbl hlt2 (by omega)
      rw [e1, if_neg (by simp), hlo] at hu
      cases k with
      | zero =>
        obtain rfl : b = o := hb
        repeat' ((conv => whnf); first
          | (refine Br.tt ?_)
          | (refine Br.ff ?_)
          | (refine Need.mk (by first | omega | (simp; done) | (simp; omega)) ?_)
          | (refine Wr.keep (by omega) ?_)
          | (refine Cmp.tt (by first | omega | decide) ?_)
          | (refine Cmp.ff (by first | omega | decide) ?_)
          | (refine Rem.pos (by omega) ?_)
          | (refine Quo.pos (by omega) ?_)
          | (refine PickV.now rfl ?_)
          | (refine Pick.now rfl ?_)
          | (refine PickW.now (by first | omega | decide) rfl ?_)
          | (refine PickW.rec cellC_len 0 (by omega) hlt ?_)
          | (apply CallI.of; assumption)
          | (refine Cmp.tt (by simp only [List.length_cons, List.length_nil]; omega) ?_)
          | (refine Cmp.ff (by simp only [List.length_cons, List.length_nil]; omega) ?_)
          | (refine Cmp.mk (fun h => ?_) (fun h => ?_))
          | (refine Rem.any (by omega) (fun r hr he => ?_))
          | (refine Br.mk (fun h => ?_) (fun h => ?_))
          | (refine LoopW.to ih rfl rfl))
        all_goals skip
      | succ j =>
        have hj : j < l.length := Nat.lt_of_succ_lt hlt
        obtain rfl : b = (l[j]'hj).2 := hb.trans (offK_succ hj)
        repeat' ((conv => whnf); first
          | (refine Br.tt ?_)
          | (refine Br.ff ?_)
          | (refine Need.mk (by first | omega | (simp; done) | (simp; omega)) ?_)
          | (refine Wr.keep (by omega) ?_)
          | (refine Cmp.tt (by first | omega | decide) ?_)
          | (refine Cmp.ff (by first | omega | decide) ?_)
          | (refine Rem.pos (by omega) ?_)
          | (refine Quo.pos (by omega) ?_)
          | (refine PickV.now rfl ?_)
          | (refine Pick.now rfl ?_)
          | (refine PickW.now (by first | omega | decide) rfl ?_)
          | (refine PickW.rec cellC_len (j + 1) (by omega) hlt ?_)
          | (refine Pick.rec cellC_len j (by omega) hj rfl ?_)
          | (apply CallI.of; assumption)
          | (refine Cmp.tt (by simp only [List.length_cons, List.length_nil]; omega) ?_)
          | (refine Cmp.ff (by simp only [List.length_cons, List.length_nil]; omega) ?_)
          | (refine Cmp.mk (fun h => ?_) (fun h => ?_))
          | (refine Rem.any (by omega) (fun r hr he => ?_))
          | (refine Br.mk (fun h => ?_) (fun h => ?_))
          | (refine LoopW.to ih rfl rfl))
        all_goals skip

set_option maxHeartbeats 8000000 in
theorem w_CalendarZones (o : Int) (l : List (Int × Int)) (m y : Int) (hl : l.length ≤ 1048576) : Fc E n_law01_CalendarZones [Zo o l, I m, I y] (B true) := by
  have aw := s_awake g
  have wz := w_zone g o l hl
  have sh := r_ShortZone g o l 6
  have cz := r_CheckZone g o l hl
  have cm := r_CheckMoment g m
  have cy := r_CheckRange g y 2000 2272
  by_cases hs : (l.length : Int) ≤ 6 ∨ 64 < l.length ∧ l.length ≤ 66
  · rw [decide_eq_true hs] at sh
    by_cases hz : chkZone o l = 0
    · by_cases hm : rng m 0 143999999 = 0
      · by_cases hy : rng y 2000 2272 = 0
        · rw [hz] at cz
          rw [hm] at cm
          rw [hy] at cy
          have hm' := rng_zero.1 hm
          have hy' := rng_zero.1 hy
          have hat := atN_range hz m l.length (Nat.le_refl _)
          have sl := s_Local_ok g o l m hl hz hm
          have hown := uni_own hz hm'
          have hq := tmod600 o (chkZone_zero.1 hz).1
          have hsf := sunM_facts y hy'
          have ss := s_Summer_ok g (o.tmod 600) y y (chkSum_zero.2 (by omega))
          rw [show (y - y + 1).toNat = 1 by omega] at ss
          have sp : Fc E n_calendar_Span [.d (.agg [DI y, .str [83]])] (.tup [Per (sunM y 3) (sunM y 10 - 1) 127, I 0]) := s_Span_ok g y false hy'
          have sl2 := s_Local_ok g (o.tmod 600) (sumL (o.tmod 600) y 1) m (by rw [sumL_length]; omega) (sum1_chk _ y hy' hq) hm
          have hend : ∃ ah v e6 : Int, Fc E n_calendar_Local [Zo (o.tmod 600) (sumL (o.tmod 600) y 1), I m] (.tup [I v, I e6]) ∧ ((e6 = 0 ∧ v = m + o.tmod 600 + ah ∧ 0 ≤ v ∧ v ≤ 143999999) ∨ (e6 = 30 ∧ (m + o.tmod 600 + ah < 0 ∨ 143999999 < m + o.tmod 600 + ah))) ∧
              ((ah = 60 ∧ 1440 * sunM y 3 + 60 ≤ m ∧ m < 1440 * sunM y 10 + 60) ∨ (ah = 0 ∧ ¬ (1440 * sunM y 3 + 60 ≤ m ∧ m < 1440 * sunM y 10 + 60))) := by
            have hat2 : atN (o.tmod 600) (sumL (o.tmod 600) y 1) m (sumL (o.tmod 600) y 1).length = o.tmod 600 + if 1440 * sunM y 3 + 60 ≤ m ∧ m < 1440 * sunM y 10 + 60 then 60 else 0 := by rw [sumL_length]; exact sum1_at _ y m hy'
            rw [hat2] at sl2
            refine ⟨if 1440 * sunM y 3 + 60 ≤ m ∧ m < 1440 * sunM y 10 + 60 then 60 else 0, ?_⟩
            by_cases hr : rng (m + (o.tmod 600 + if 1440 * sunM y 3 + 60 ≤ m ∧ m < 1440 * sunM y 10 + 60 then 60 else 0)) 0 143999999 = 0
            · rw [if_pos hr] at sl2
              have := rng_zero.1 hr
              exact ⟨_, _, sl2, .inl ⟨rfl, (Int.add_assoc _ _ _).symm, this⟩, by split <;> simp_all⟩
            · rw [if_neg hr] at sl2
              have := mt rng_zero.2 hr
              exact ⟨_, _, sl2, .inr ⟨rfl, by rw [Int.add_assoc]; omega⟩, by split <;> simp_all⟩
          clear sl2
          obtain ⟨ah, v, e6, hl6, h61, h62⟩ := hend
          refine g.fn code_law01_CalendarZones rfl ?_
          have hfirst : (∃ e : Int, e = 30 ∧ Fc E n_calendar_Local [Zo o l, I m] (.tup [I 0, I e])) ∨ (∃ lo : Int, lo = m + atN o l m l.length ∧ Fc E n_calendar_Local [Zo o l, I m] (.tup [I lo, I 0]) ∧ ∃ ul : List Int, Fc E n_calendar_Universal [Zo o l, I lo] (.tup [LI ul, I 0]) ∧ Fc E n_ref01_HasInt [LI ul, I m] (B true) ∧ ((∃ x, ul = [x] ∧ (l.length = 0 → lo = m + o)) ∨ (∃ x z, ul = [x, z] ∧ x < z ∧ 0 < l.length))) := by
            by_cases hr : rng (m + atN o l m l.length) 0 143999999 = 0
            · right
              rw [if_pos hr] at sl
              refine ⟨_, rfl, sl, uniA o l (m + atN o l m l.length), ?_, ?_, ?_⟩
              · have := s_Universal_ok g o l _ hl hz hr
                rw [if_neg (by rcases hown with ⟨x, h1, _⟩ | ⟨x, z, h1, _⟩ <;> rw [h1] <;> simp)] at this
                exact this
              · exact r_HasInt g _ m (by have := uniA_two hz (m + atN o l m l.length); omega) (uniA_mem.2 ⟨hm', rfl⟩)
              · rcases hown with ⟨x, h1, h2⟩ | ⟨x, z, h1, h2, h3⟩
                · refine .inl ⟨x, h1, fun h0 => ?_⟩
                  rw [h0]; rfl
                · refine .inr ⟨x, z, h1, h2, ?_⟩
                  rcases Nat.eq_zero_or_pos l.length with h0 | h0
                  · exfalso
                    have k1 := (uniA_mem.1 (show x ∈ uniA o l (m + atN o l m l.length) by rw [h1]; simp)).2
                    have k2 := (uniA_mem.1 (show z ∈ uniA o l (m + atN o l m l.length) by rw [h1]; simp)).2
                    rw [h0] at k1 k2
                    simp only [atN] at k1 k2
                    omega
                  · exact h0
            · left
              rw [if_neg hr] at sl
              exact ⟨30, rfl, sl⟩
          clear sl hown
          by_cases hL : (l.length : Int) = 0
          all_goals rcases hfirst with ⟨e, rfl, hloc⟩ | ⟨lo, hlo, hloc, ul, hul, hhas, ⟨x, rfl, h0⟩ | ⟨x, z, rfl, hxz, h0⟩⟩
          all_goals first
            | (exfalso; omega)
            | skip
          all_goals (repeat' ((conv => whnf); first
            | (refine Br.tt ?_)
            | (refine Br.ff ?_)
            | (refine Need.mk (by first | omega | (simp; done) | (simp; omega)) ?_)
            | (refine Wr.keep (by omega) ?_)
            | (refine Cmp.tt (by first | omega | decide) ?_)
            | (refine Cmp.ff (by first | omega | decide) ?_)
            | (refine Rem.pos (by omega) ?_)
            | (refine Quo.pos (by omega) ?_)
            | (refine PickV.now rfl ?_)
            | (refine Pick.now rfl ?_)
            | (refine PickW.now (by first | omega | decide) rfl ?_)
            | (apply CallI.of; assumption)
            | (refine Cmp.tt (by simp only [List.length_cons, List.length_nil]; omega) ?_)
            | (refine Cmp.ff (by simp only [List.length_cons, List.length_nil]; omega) ?_)
            ))
          all_goals (conv => whnf)
          all_goals refine LoopW.to (LoopW.up g (fun k => [(1, I m), (2, I y), (3, .ptr ⟨0, 3, 0⟩ 0 0), (121, .d (.list l.length (l.flatMap cellC))), (122, I l.length), (123, I k)]) (fun _ => [(⟨0, 3, 0⟩, .cells ty_calendar_Zone [I o, .d (.list l.length (l.flatMap cellC))]), (⟨0, 7, 0⟩, .cells ty_turnroundref01_Zone [I o, .d (.list l.length (l.flatMap cellC))])]) l.length (fun k hk ih => ?_) 0 (Nat.zero_le _)) rfl rfl
          all_goals by_cases hlt : k < l.length
          all_goals first
            | (exact zones_body g hl hz m y k hlt _ (ih hlt))
            | skip
          all_goals (repeat' ((conv => whnf); first
            | (refine Br.tt ?_)
            | (refine Br.ff ?_)
            | (refine Need.mk (by first | omega | (simp; done) | (simp; omega)) ?_)
            | (refine Wr.keep (by omega) ?_)
            | (refine Cmp.tt (by first | omega | decide) ?_)
            | (refine Cmp.ff (by first | omega | decide) ?_)
            | (refine Rem.pos (by omega) ?_)
            | (refine Quo.pos (by omega) ?_)
            | (refine PickV.now rfl ?_)
            | (refine Pick.now rfl ?_)
            | (refine PickW.now (by first | omega | decide) rfl ?_)
            | (apply CallI.of; assumption)
            | (refine Rem.mk (by decide) ?_)
            | (refine Cmp.mk (fun h => ?_) (fun h => ?_))
            | (refine Rem.any (by omega) (fun r hr he => ?_))
            | (refine Br.mk (fun h => ?_) (fun h => ?_))
            | (refine Ret.mk ?_)))
          all_goals first
            | rfl
            | (exfalso; omega)
        · refine g.fn code_law01_CalendarZones rfl ?_
          generalize rng y 2000 2272 = c at *
          rw [hz] at cz
          rw [hm] at cm
          repeat' ((conv => whnf); first
            | (refine Br.tt ?_)
            | (refine Br.ff ?_)
            | (refine Need.mk (by first | omega | (simp; done) | (simp; omega)) ?_)
            | (refine Wr.keep (by omega) ?_)
            | (refine Cmp.tt (by first | omega | decide) ?_)
            | (refine Cmp.ff (by first | omega | decide) ?_)
            | (refine Rem.pos (by omega) ?_)
            | (refine Quo.pos (by omega) ?_)
            | (refine PickV.now rfl ?_)
            | (refine Pick.now rfl ?_)
            | (refine PickW.now (by first | omega | decide) rfl ?_)
            | (apply CallI.of; assumption)
            | (refine Ret.mk rfl))
      · refine g.fn code_law01_CalendarZones rfl ?_
        generalize rng m 0 143999999 = c at *
        rw [hz] at cz
        repeat' ((conv => whnf); first
          | (refine Br.tt ?_)
          | (refine Br.ff ?_)
          | (refine Need.mk (by first | omega | (simp; done) | (simp; omega)) ?_)
          | (refine Wr.keep (by omega) ?_)
          | (refine Cmp.tt (by first | omega | decide) ?_)
          | (refine Cmp.ff (by first | omega | decide) ?_)
          | (refine Rem.pos (by omega) ?_)
          | (refine Quo.pos (by omega) ?_)
          | (refine PickV.now rfl ?_)
          | (refine Pick.now rfl ?_)
          | (refine PickW.now (by first | omega | decide) rfl ?_)
          | (apply CallI.of; assumption)
          | (refine Ret.mk rfl))
    · refine g.fn code_law01_CalendarZones rfl ?_
      generalize chkZone o l = c at *
      repeat' ((conv => whnf); first
        | (refine Br.tt ?_)
        | (refine Br.ff ?_)
        | (refine Need.mk (by first | omega | (simp; done) | (simp; omega)) ?_)
        | (refine Wr.keep (by omega) ?_)
        | (refine Cmp.tt (by first | omega | decide) ?_)
        | (refine Cmp.ff (by first | omega | decide) ?_)
        | (refine Rem.pos (by omega) ?_)
        | (refine Quo.pos (by omega) ?_)
        | (refine PickV.now rfl ?_)
        | (refine Pick.now rfl ?_)
        | (refine PickW.now (by first | omega | decide) rfl ?_)
        | (apply CallI.of; assumption)
        | (refine Ret.mk rfl))
  · rw [decide_eq_false hs] at sh
    refine g.fn code_law01_CalendarZones rfl ?_
    repeat' ((conv => whnf); first
      | (refine Br.tt ?_)
      | (refine Br.ff ?_)
      | (refine Need.mk (by first | omega | (simp; done) | (simp; omega)) ?_)
      | (refine Wr.keep (by omega) ?_)
      | (refine Cmp.tt (by first | omega | decide) ?_)
      | (refine Cmp.ff (by first | omega | decide) ?_)
      | (refine Rem.pos (by omega) ?_)
      | (refine Quo.pos (by omega) ?_)
      | (refine PickV.now rfl ?_)
      | (refine Pick.now rfl ?_)
      | (refine PickW.now (by first | omega | decide) rfl ?_)
      | (apply CallI.of; assumption)
      | (refine Ret.mk rfl))
end

theorem s_CalendarZones {E : Oracle} (g : Good E) {xs : List D} (h : fitArgs Tryd.prog [34, 3, 3] xs) (hb : smallL 1048576 xs) : Fc E n_law01_CalendarZones (asV xs) (B true) := by
  obtain ⟨x, y, z, rfl, h1, h2, h3⟩ := args3 h
  obtain ⟨o, l, rfl⟩ := arg_Zone h1
  obtain ⟨m, rfl, _⟩ := arg_int h2
  obtain ⟨yr, rfl, _⟩ := arg_int h3
  exact w_CalendarZones g o l m yr hb.1.2.1.1
end Go.Proofs.YtlboecjgelnabaaDoor.Co

