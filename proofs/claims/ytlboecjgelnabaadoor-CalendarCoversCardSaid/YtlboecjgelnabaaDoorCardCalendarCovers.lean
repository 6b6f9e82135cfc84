/-
  CalendarCovers: the card is closed out of the proved law: for every input the call returns true, and the input reads as before.
-/
import Derived.Test.YtlboecjgelnabaaDoorCards
import Derived.Test.YtlboecjgelnabaaDoorTie
import Derived.Test.YtlboecjgelnabaaDoorRead
import Derived.Test.YtlboecjgelnabaaDoorFrame
import Derived.Test.YtlboecjgelnabaaDoorLCalendarCovers
import Derived.WalkKit
import Derived.ProofKit
import Derived.OpenShut
import Derived.Deep.DeepHandedRow
import Derived.Lib.LaidTab
namespace Go.Proofs.YtlboecjgelnabaaDoor.CardCalendarCovers
open Go.ChangeShapes Go.WideShapes Go.ChangeAt Go.RowKit Go.Evl Go.Proofs.YtlboecjgelnabaaDoor.Co

theorem ext_ok : ExternOk Tryd.prog globs ext := fun f x h => by
  have hm := findC_mem f x exts h
  simp only [exts, List.mem_cons, Prod.mk.injEq, List.not_mem_nil, or_false] at hm
  rcases hm with ⟨rfl, rfl⟩ | ⟨rfl, rfl⟩ | ⟨rfl, rfl⟩ | ⟨rfl, rfl⟩
  · exact given_itoa Tryd.laysM171 (f := n_strconv_Itoa) rfl (enters _ (by kernel_rfl)) (g := 1) (by kernel_rfl) (by unfold globs; repeat (first | exact List.Mem.head _ | apply List.Mem.tail))
  · exact given_copyCheck (enters _ (by kernel_rfl)) Copy.used Copy.fresh
  · exact given_string Tryd.lays169 Tryd.Builder_Extra_169 (f := n_strings_Builder_String) rfl rfl rfl (enters _ (by kernel_rfl))
  · exact given_sort Tryd.lays189 (f := n_slices_Sort_Lint_int) rfl (enters _ (by kernel_rfl))

theorem own : ownKnob Tryd.prog.godebug = none := by kernel_rfl
theorem laidOut : laidOutB Tryd.prog = true := by kernel_rfl
theorem tab0 {W : World} {ps : List MemPlace} (h : DataW.LaidVars Tryd.prog W Rows.calendarCoversRow.laid ps) : Lib.TabIs Tryd.prog W "internal/strconv.uint64pow10" .u64 [1, 10, 100, 1000, 10000, 100000, 1000000, 10000000, 100000000, 1000000000, 10000000000, 100000000000, 1000000000000, 10000000000000, 100000000000000, 1000000000000000, 10000000000000000, 100000000000000000, 1000000000000000000, 10000000000000000000] :=
  laid_tab (t := 155) (e := 136) (n := 20) (g := 1) (by kernel_rfl) (by kernel_rfl) Tryd.underlying155 Tryd.underlying136 (by kernel_rfl) (by kernel_rfl) _ ps (by unfold Rows.calendarCoversRow; repeat (first | exact List.Mem.head _ | apply List.Mem.tail)) h
theorem tab1 {W : World} {ps : List MemPlace} (h : DataW.LaidVars Tryd.prog W Rows.calendarCoversRow.laid ps) : Lib.TabIs Tryd.prog W "turnround/calendar.lengths" .i64 [31, 28, 31, 30, 31, 30, 31, 31, 30, 31, 30, 31] :=
  laid_tab (t := 114) (e := 3) (n := 12) (g := 0) (by kernel_rfl) (by kernel_rfl) Tryd.underlying114 Tryd.underlying3 (by kernel_rfl) (by kernel_rfl) _ ps (by unfold Rows.calendarCoversRow; repeat (first | exact List.Mem.head _ | apply List.Mem.tail)) h
theorem start {W : World} (h : laidMetH Tryd.prog Rows.calendarCoversRow.laid W) : Sim (ocOf Tryd.prog globs) globs (begin_ W) := by
  have h' : laidMet Tryd.prog Rows.calendarCoversRow.laid W := h
  obtain ⟨ps, hl, _⟩ := h'
  refine begin_sim fun g cs hg => ?_
  simp only [globs, List.mem_cons, Prod.mk.injEq, List.not_mem_nil, or_false] at hg
  rcases hg with ⟨rfl, rfl⟩ | ⟨rfl, rfl⟩
  · obtain ⟨k1, k2⟩ := start_tab (g := 0) (begin_im W) (by kernel_rfl) (tab1 hl)
    exact ⟨k1, by simp, k2⟩
  · obtain ⟨k1, k2⟩ := start_tab (g := 1) (begin_im W) (by kernel_rfl) (tab0 hl)
    exact ⟨k1, by simp, k2⟩

set_option maxRecDepth 100000 in
theorem contract (H : Type) (enc : TypeId × Value → H) (W : World) (base : Nat) (args : Array Value) (ds gs : List (DataW H)) (before : List MemPlace)
    (hval : ∀ (j : Nat) t v, Tryd.f7.params[j]? = some t → args[j]? = some v → Value.okWide Tryd.prog W .any base t v)
    (hW : DataW.Whole enc Tryd.prog Tryd.f7.params.toList Rows.calendarCoversSpec.vars false W args.toList ds gs before) (hL : laidMetH Tryd.prog Rows.calendarCoversRow.laid W) :
    Calls Tryd.prog 7 args W fun e W' => ∃ v, e = .returned v ∧ Rows.calendarCoversSpec.post enc Tryd.prog Tryd.f7 false true false false W args v W' := by
  have hW' := hW
  obtain ⟨p, q, hA, hV, rfl, hfz, hnd⟩ := hW
  rw [Tryd.params7] at hA hval
  obtain ⟨rfl, rfl⟩ := trodVars_none hV
  have hA0 := hA
  obtain ⟨v0, vs0, d0, ds0, p0, q0, hargs0, rfl, hp0, h0, r0⟩ := trodAll_cons hA
  obtain ⟨v1, vs1, d1, ds1, p1, q1, hargs1, rfl, hp1, h1, r1⟩ := trodAll_cons r0
  subst hargs1
  obtain ⟨v2, vs2, d2, ds2, p2, q2, hargs2, rfl, hp2, h2, r2⟩ := trodAll_cons r1
  subst hargs2
  obtain ⟨rfl, rfl, hq⟩ := trodAll_nil r2
  have hal : args.toList = [v0, v1, v2] := hargs0
  obtain rfl : args = #[v0, v1, v2] := by cases args; simp_all
  obtain ⟨xs, hx, hfit, _⟩ := args_ok (B := 1048576) (begin_im W) (begin_ W) rfl rfl _ _ _ _ (by decide +kernel) (fun j t v h1 h2 => hval j t v (by simpa using h1) (by simpa using h2)) hA0
  obtain ⟨E, hE⟩ := exists_good
  have hlaw := s_CalendarCovers hE hfit
  refine (law_calls mixed ext_ok code_ok hE.lim (start hL) hlaw hx).mono fun e W' hh => ?_
  obtain ⟨rfl, hb⟩ := hh
  have hlt : ∀ x ∈ p, x.block < W.heap.size := fun x hx => hW'.lt x (by simpa using hx)
  exact ⟨_, rfl, law_post (t := 4) (by simpa using hW') rfl rfl (by kernel_rfl) Tryd.underlying4 hb fun sp hsp => by
    have := trodAll_stays (sp' := sp) laidOut _ _ _ _ (by decide +kernel) hA0 (fun x hx => hb.same (hlt x hx)) (fun x hx => hsp x (by simpa using hx))
    simpa using this⟩

/-- A world for the witness: the settled one, the tables holding what their initialisers lay. -/
noncomputable def laidWorld (os : Os) : World :=
  { World.holding Tryd.prog os ⟨#[], #[], []⟩ with heap := (((((World.holding Tryd.prog os ⟨#[], #[], []⟩).heap.modify 2 fun
      | .cells _ t frozen => .cells #[.int .u8 0, .int .u8 1, .int .u8 28, .int .u8 2, .int .u8 29, .int .u8 14, .int .u8 24, .int .u8 3, .int .u8 30, .int .u8 22, .int .u8 20, .int .u8 15, .int .u8 25, .int .u8 17, .int .u8 4, .int .u8 8, .int .u8 31, .int .u8 27, .int .u8 13, .int .u8 23, .int .u8 21, .int .u8 19, .int .u8 16, .int .u8 7, .int .u8 26, .int .u8 12, .int .u8 18, .int .u8 6, .int .u8 11, .int .u8 5, .int .u8 10, .int .u8 9] t frozen
      | o => o).modify 3 fun
      | .cells _ t frozen => .cells #[.int .u8 0, .int .u8 1, .int .u8 56, .int .u8 2, .int .u8 57, .int .u8 49, .int .u8 28, .int .u8 3, .int .u8 61, .int .u8 58, .int .u8 42, .int .u8 50, .int .u8 38, .int .u8 29, .int .u8 17, .int .u8 4, .int .u8 62, .int .u8 47, .int .u8 59, .int .u8 36, .int .u8 45, .int .u8 43, .int .u8 51, .int .u8 22, .int .u8 53, .int .u8 39, .int .u8 33, .int .u8 30, .int .u8 24, .int .u8 18, .int .u8 12, .int .u8 5, .int .u8 63, .int .u8 55, .int .u8 48, .int .u8 27, .int .u8 60, .int .u8 41, .int .u8 37, .int .u8 16, .int .u8 46, .int .u8 35, .int .u8 44, .int .u8 21, .int .u8 52, .int .u8 32, .int .u8 23, .int .u8 11, .int .u8 54, .int .u8 26, .int .u8 40, .int .u8 15, .int .u8 34, .int .u8 20, .int .u8 31, .int .u8 10, .int .u8 25, .int .u8 14, .int .u8 19, .int .u8 9, .int .u8 13, .int .u8 8, .int .u8 7, .int .u8 6] t frozen
      | o => o).modify 1 fun
      | .cells _ t frozen => .cells #[.int .u64 1, .int .u64 10, .int .u64 100, .int .u64 1000, .int .u64 10000, .int .u64 100000, .int .u64 1000000, .int .u64 10000000, .int .u64 100000000, .int .u64 1000000000, .int .u64 10000000000, .int .u64 100000000000, .int .u64 1000000000000, .int .u64 10000000000000, .int .u64 100000000000000, .int .u64 1000000000000000, .int .u64 10000000000000000, .int .u64 100000000000000000, .int .u64 1000000000000000000, .int .u64 10000000000000000000] t frozen
      | o => o).modify 0 fun
      | .cells _ t frozen => .cells #[.int .i64 31, .int .i64 28, .int .i64 31, .int .i64 30, .int .i64 31, .int .i64 30, .int .i64 31, .int .i64 31, .int .i64 30, .int .i64 31, .int .i64 30, .int .i64 31] t frozen
      | o => o) }
theorem laid_met (os : Os) : laidMet Tryd.prog Rows.calendarCoversRow.laid ((laidWorld os).forCall (fun _ _ => 0) ⟨#[], #[.agg #[.int .i64 0, .int .i64 0, .int .i64 0], .agg #[.int .i64 0, .int .i64 0, .int .i64 0], .agg #[.int .i64 0, .int .i64 0]], []⟩).memory :=
  laidMet_of_run' 8 (by kernel_rfl) (by kernel_rfl)
theorem reads (os : Os) {H : Type} (enc : TypeId × Value → H) : ∃ places, DataW.whole enc Tryd.prog ((laidWorld os).forCall (fun _ _ => 0) ⟨#[], #[.agg #[.int .i64 0, .int .i64 0, .int .i64 0], .agg #[.int .i64 0, .int .i64 0, .int .i64 0], .agg #[.int .i64 0, .int .i64 0]], []⟩).memory Tryd.f7.params.toList Rows.calendarCoversSpec.vars false (#[.agg #[.int .i64 0, .int .i64 0, .int .i64 0], .agg #[.int .i64 0, .int .i64 0, .int .i64 0], .agg #[.int .i64 0, .int .i64 0]] : Array Value).toList 8 = some ([.agg [.lit (.int .i64 0), .lit (.int .i64 0), .lit (.int .i64 0)], .agg [.lit (.int .i64 0), .lit (.int .i64 0), .lit (.int .i64 0)], .agg [.lit (.int .i64 0), .lit (.int .i64 0)]], [], places) :=
  ⟨[], by kernel_rfl⟩

set_option maxRecDepth 100000 in
theorem lifted (os : Os) (started : os.Started) (H : Type) (enc : TypeId × Value → H) (F : Stop.Interp) :
    ReturnsInHanded {} Tryd.checked os 7 .any ((OpenSpec.ofChange Rows.calendarCoversSpec).preRow enc Tryd.prog Tryd.f7 Rows.calendarCoversRow.domain false Rows.calendarCoversRow.laid) (((OpenSpec.ofChange Rows.calendarCoversSpec).at F).post enc Tryd.prog Tryd.f7 false true false false) := by
  obtain ⟨places, hx⟩ := reads os enc
  refine returnsInHanded_of_row (C := Tryd.checked) (s := OpenSpec.ofChange Rows.calendarCoversSpec) own started (by kernel_rfl) Tryd.func7
    (witness_row_at (enc := enc) (C := Tryd.checked) false (laidWorld os) #[.agg #[.int .i64 0, .int .i64 0, .int .i64 0], .agg #[.int .i64 0, .int .i64 0, .int .i64 0], .agg #[.int .i64 0, .int .i64 0]] rfl (by kernel_rfl) (by kernel_rfl) (by kernel_rfl)
      (OpenSpec.preRow_of_cond 8 hx (by kernel_rfl) (fun k hk => by cases hk) (by kernel_rfl) (laid_met os))) ?_
  intro W base args ds gs before hval hW _ hcond _ hL _ _
  exact contract H enc W base args ds gs before hval hW hL

set_option maxRecDepth 100000 in
theorem said : Rows.CalendarCoversSaid :=
  OpenClaim.holds_of_cond 7 Tryd.f7 rfl rfl rfl rfl rfl rfl rfl ⟨rfl, rfl, rfl, rfl, rfl⟩ rfl rfl rfl rfl rfl (by kernel_rfl) Tryd.func7 (by kernel_rfl)
    (of_decide_eq_true (by kernel_rfl)) (by unfold Func.isWrapper; first | (rw [if_pos (by decide +kernel)]; kernel_rfl) | (rw [if_neg (by decide +kernel)]; exact ⟨rfl, rfl⟩))
    (fun os started H enc _ F => by rw [OpenClaim.pre_eq_preRow]; exact lifted os started H enc F)

theorem plain (f : FuncId) (fn : Func) (hf : Tryd.pinned.checked.prog.funcNamed "turnround/turnroundlaw01.CalendarCovers" = some f) (hfn : Tryd.pinned.checked.prog.funcs[f]? = some fn) :
    false = Tryd.pinned.checked.prog.looks [] ∧ ∀ (j : Nat) t, fn.params[j]? = some t → Tryd.pinned.checked.prog.wantsStandIn t = false := by
  obtain rfl : f = 7 := Option.some.inj ((show Tryd.prog.funcNamed "turnround/turnroundlaw01.CalendarCovers" = some 7 by kernel_rfl).symm.trans hf) |>.symm
  obtain rfl : fn = Tryd.f7 := (Option.some.inj (Tryd.func7.symm.trans hfn)).symm
  refine ⟨by kernel_rfl, fun j t ht => ?_⟩
  rw [Tryd.params7] at ht
  have hm := Array.mem_of_getElem? ht
  simp only [List.mem_toArray, List.mem_cons, List.not_mem_nil, or_false] at hm
  rcases hm with rfl | rfl | rfl
  · exact (show Tryd.prog.wantsStandIn 53 = false by kernel_rfl)
  · exact (show Tryd.prog.wantsStandIn 53 = false by kernel_rfl)
  · exact (show Tryd.prog.wantsStandIn 71 = false by kernel_rfl)

end Go.Proofs.YtlboecjgelnabaaDoor.CardCalendarCovers
namespace Go.Proofs.YtlboecjgelnabaaDoor
open CardCalendarCovers
theorem calendarCovers_card : Rows.CalendarCoversCardSaid :=
  Claim7.holds_tied_plain_at .later [] _ _ _ _ said (fun _ h => by cases h) (by kernel_rfl) (fun _ h => by cases h) calendarCovers_row_tie rfl ⟨rfl, rfl⟩ (by kernel_rfl) rfl plain (by kernel_rfl)
end Go.Proofs.YtlboecjgelnabaaDoor
