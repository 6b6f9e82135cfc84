/-
  TopTowerServed: the card is closed out of the proved law: for every input the call returns true, and the input reads as before. Where the input is of bulk at most 1048576.
-/
import Derived.Test.YtkgcnknhkobmjaaGreatDoorCards
import Derived.Test.YtkgcnknhkobmjaaGreatDoorTie
import Derived.Test.YtkgcnknhkobmjaaGreatDoorRead
import Derived.Test.YtkgcnknhkobmjaaGreatDoorFrame
import Derived.Test.YtkgcnknhkobmjaaGreatDoorSeat
import Derived.Test.YtkgcnknhkobmjaaGreatDoorTsn
import Derived.WalkKit
import Derived.ProofKit
import Derived.OpenShut
import Derived.Deep.DeepHandedRow
import Derived.Lib.LaidTab
namespace Go.Proofs.YtkgcnknhkobmjaaGreatDoor.CardTopTowerServed
open Go.ChangeShapes Go.WideShapes Go.ChangeAt Go.RowKit Go.Evl Go.Proofs.YtkgcnknhkobmjaaGreatDoor.Co

theorem own : ownKnob Tryz.prog.godebug = none := by kernel_rfl
theorem laidOut : laidOutB Tryz.prog = true := by kernel_rfl
theorem tab0 {W : World} {ps : List MemPlace} (h : DataW.LaidVars Tryz.prog W Rows.topTowerServedUptoRow.laid ps) : Lib.TabIs Tryz.prog W "internal/strconv.uint64pow10" .u64 [1, 10, 100, 1000, 10000, 100000, 1000000, 10000000, 100000000, 1000000000, 10000000000, 100000000000, 1000000000000, 10000000000000, 100000000000000, 1000000000000000, 10000000000000000, 100000000000000000, 1000000000000000000, 10000000000000000000] :=
  yoj (t := 344) (e := 286) (n := 20) (g := 0) (by kernel_rfl) (by kernel_rfl) Tryz.underlying344 Tryz.underlying286 (by kernel_rfl) (by kernel_rfl) _ ps (by unfold Rows.topTowerServedUptoRow; repeat (first | exact List.Mem.head _ | apply List.Mem.tail)) h
theorem start {W : World} (h : laidMetH Tryz.prog Rows.topTowerServedUptoRow.laid W) (_ : W.ShapedOpen Tryz.prog) : ∃ mx, Sim (zre Tryz.prog (globsM mx)) (globsM mx) (ztn W) := by
  have h' : laidMet Tryz.prog Rows.topTowerServedUptoRow.laid W := h
  obtain ⟨ps, hl, _⟩ := h'
  refine ⟨0, ytd fun g cs hg => ?_⟩
  simp only [globsM, globs, List.mem_cons, Prod.mk.injEq, List.not_mem_nil, or_false] at hg
  rcases hg with ⟨rfl, rfl⟩
  · obtain ⟨k1, k2⟩ := yua (g := 0) (ynl W) (by kernel_rfl) (tab0 hl)
    exact ⟨k1, by simp, k2⟩

set_option maxRecDepth 100000 in
theorem contract (H : Type) (enc : TypeId × Value → H) (W : World) (base : Nat) (args : Array Value) (ds gs : List (DataW H)) (before : List MemPlace)
    (hval : ∀ (j : Nat) t v, Tryz.f3.params[j]? = some t → args[j]? = some v → Value.okWide Tryz.prog W .any base t v)
    (hW : DataW.Whole enc Tryz.prog Tryz.f3.params.toList Rows.topTowerServedSpec.vars false W args.toList ds gs before) (hL : laidMetH Tryz.prog Rows.topTowerServedUptoRow.laid W) (hsh : W.ShapedOpen Tryz.prog) (hB : Rows.uptoBulkAll (ds ++ gs) ≤ 1048576) :
    Calls Tryz.prog 3 args W fun e W' => ∃ v, e = .returned v ∧ Rows.topTowerServedSpec.post enc Tryz.prog Tryz.f3 false true false false W args v W' := by
  have hW' := hW
  obtain ⟨p, q, hA, hV, rfl, hfz, hnd⟩ := hW
  rw [Tryz.params3] at hA hval
  obtain ⟨rfl, rfl⟩ := trodVars_none hV
  have hA0 := hA
  obtain ⟨v0, vs0, d0, ds0, p0, q0, hargs0, rfl, hp0, h0, r0⟩ := trodAll_cons hA
  obtain ⟨v1, vs1, d1, ds1, p1, q1, hargs1, rfl, hp1, h1, r1⟩ := trodAll_cons r0
  subst hargs1
  obtain ⟨v2, vs2, d2, ds2, p2, q2, hargs2, rfl, hp2, h2, r2⟩ := trodAll_cons r1
  subst hargs2
  obtain ⟨rfl, rfl, hq⟩ := trodAll_nil r2
  have hal : args.toList = [v0, v1, v2] := hargs0
  obtain rfl : args = #[v0, v1, v2] := by cases args; simp_all
  obtain ⟨xs, hx, hfit, hsm⟩ := yqy (B := 1048576) (ynl W) (ztn W) rfl rfl _ _ _ _ (by decide +kernel) (fun j t v h1 h2 => hval j t v (by simpa using h1) (by simpa using h2)) hA0
  obtain ⟨E, hE⟩ := exists_good
  have hlaw := yi6 hE hfit (hsm (by simpa using hB))
  obtain ⟨mx, hst⟩ := start hL hsh
  refine (ytl mixed (ext_ok mx) (code_ok mx) hE.lim hst hlaw hx).mono fun e W' hh => ?_
  obtain ⟨rfl, hb⟩ := hh
  have hlt : ∀ x ∈ p, x.block < W.heap.size := fun x hx => hW'.lt x (by simpa using hx)
  exact ⟨_, rfl, law_post (t := 4) (by simpa using hW') rfl rfl (by kernel_rfl) Tryz.underlying4 hb fun sp hsp => by
    have := z8r (sp' := sp) laidOut _ _ _ _ (by decide +kernel) hA0 (fun x hx => hb.same (hlt x hx)) (fun x hx => hsp x (by simpa using hx))
    simpa using this⟩

/-- A world for the witness: the settled one, the tables holding what their initialisers lay. -/
noncomputable def laidWorld (os : Os) : World :=
  { World.holding Tryz.prog os ⟨#[], #[], []⟩ with heap := ((((World.holding Tryz.prog os ⟨#[], #[], []⟩).heap.modify 2 fun
      | .cells _ t frozen => .cells #[.int .u8 0, .int .u8 1, .int .u8 28, .int .u8 2, .int .u8 29, .int .u8 14, .int .u8 24, .int .u8 3, .int .u8 30, .int .u8 22, .int .u8 20, .int .u8 15, .int .u8 25, .int .u8 17, .int .u8 4, .int .u8 8, .int .u8 31, .int .u8 27, .int .u8 13, .int .u8 23, .int .u8 21, .int .u8 19, .int .u8 16, .int .u8 7, .int .u8 26, .int .u8 12, .int .u8 18, .int .u8 6, .int .u8 11, .int .u8 5, .int .u8 10, .int .u8 9] t frozen
      | o => o).modify 3 fun
      | .cells _ t frozen => .cells #[.int .u8 0, .int .u8 1, .int .u8 56, .int .u8 2, .int .u8 57, .int .u8 49, .int .u8 28, .int .u8 3, .int .u8 61, .int .u8 58, .int .u8 42, .int .u8 50, .int .u8 38, .int .u8 29, .int .u8 17, .int .u8 4, .int .u8 62, .int .u8 47, .int .u8 59, .int .u8 36, .int .u8 45, .int .u8 43, .int .u8 51, .int .u8 22, .int .u8 53, .int .u8 39, .int .u8 33, .int .u8 30, .int .u8 24, .int .u8 18, .int .u8 12, .int .u8 5, .int .u8 63, .int .u8 55, .int .u8 48, .int .u8 27, .int .u8 60, .int .u8 41, .int .u8 37, .int .u8 16, .int .u8 46, .int .u8 35, .int .u8 44, .int .u8 21, .int .u8 52, .int .u8 32, .int .u8 23, .int .u8 11, .int .u8 54, .int .u8 26, .int .u8 40, .int .u8 15, .int .u8 34, .int .u8 20, .int .u8 31, .int .u8 10, .int .u8 25, .int .u8 14, .int .u8 19, .int .u8 9, .int .u8 13, .int .u8 8, .int .u8 7, .int .u8 6] t frozen
      | o => o).modify 0 fun
      | .cells _ t frozen => .cells #[.int .u64 1, .int .u64 10, .int .u64 100, .int .u64 1000, .int .u64 10000, .int .u64 100000, .int .u64 1000000, .int .u64 10000000, .int .u64 100000000, .int .u64 1000000000, .int .u64 10000000000, .int .u64 100000000000, .int .u64 1000000000000, .int .u64 10000000000000, .int .u64 100000000000000, .int .u64 1000000000000000, .int .u64 10000000000000000, .int .u64 100000000000000000, .int .u64 1000000000000000000, .int .u64 10000000000000000000] t frozen
      | o => o) }
theorem laid_met (os : Os) : laidMet Tryz.prog Rows.topTowerServedUptoRow.laid ((laidWorld os).forCall (fun _ _ => 0) ⟨#[], #[.slice none 0 0, .slice none 0 0, .agg #[.int .u16 0, .int .u8 0]], []⟩).memory :=
  laidMet_of_run' 8 (by kernel_rfl) (by kernel_rfl)
theorem reads (os : Os) {H : Type} (enc : TypeId × Value → H) : ∃ places, DataW.whole enc Tryz.prog ((laidWorld os).forCall (fun _ _ => 0) ⟨#[], #[.slice none 0 0, .slice none 0 0, .agg #[.int .u16 0, .int .u8 0]], []⟩).memory Tryz.f3.params.toList Rows.topTowerServedSpec.vars false (#[.slice none 0 0, .slice none 0 0, .agg #[.int .u16 0, .int .u8 0]] : Array Value).toList 8 = some ([.nil, .nil, .agg [.lit (.int .u16 0), .lit (.int .u8 0)]], [], places) :=
  ⟨[], by kernel_rfl⟩

set_option maxRecDepth 100000 in
theorem lifted (os : Os) (started : os.Started) (H : Type) (enc : TypeId × Value → H) (F : Stop.Interp) :
    ReturnsInHanded {} Tryz.checked os 3 .any ((Rows.OpenSpec.upto Rows.topTowerServedSpec).preRow enc Tryz.prog Tryz.f3 Rows.topTowerServedUptoRow.domain false Rows.topTowerServedUptoRow.laid) (((Rows.OpenSpec.upto Rows.topTowerServedSpec).at F).post enc Tryz.prog Tryz.f3 false true false false) := by
  obtain ⟨places, hx⟩ := reads os enc
  refine returnsInHanded_of_row (C := Tryz.checked) (s := Rows.OpenSpec.upto Rows.topTowerServedSpec) own started (by kernel_rfl) Tryz.func3
    (witness_row_at (enc := enc) (C := Tryz.checked) false (laidWorld os) #[.slice none 0 0, .slice none 0 0, .agg #[.int .u16 0, .int .u8 0]] rfl (by kernel_rfl) (by kernel_rfl) (by kernel_rfl)
      (OpenSpec.preRow_of_cond 8 hx (by kernel_rfl) (fun k hk => by cases hk; kernel_rfl) (by kernel_rfl) (laid_met os))) ?_
  intro W base args ds gs before hval hW _ hcond _ hL hsh _
  exact contract H enc W base args ds gs before hval hW hL hsh (of_decide_eq_true (hcond _ rfl))

set_option maxRecDepth 100000 in
set_option maxHeartbeats 0 in
theorem closed : joinedFacts Tryz.prog 3 Tryz.f3 Rows.topTowerServedSpec Rows.topTowerServedUptoRow = true := by
  unfold joinedFacts
  simp only [Bool.and_eq_true]
  repeat' apply And.intro
  all_goals as_aux_lemma => kernel_rfl
set_option maxRecDepth 100000 in
theorem said : Rows.TopTowerServedUptoSaid :=
  OpenClaim.holds_of_cond 3 Tryz.f3 rfl rfl rfl rfl rfl rfl rfl ⟨rfl, rfl, rfl, rfl, rfl⟩ rfl rfl rfl rfl rfl (by kernel_rfl) Tryz.func3 closed
    (of_decide_eq_true (by kernel_rfl)) (by unfold Func.isWrapper; first | (rw [if_pos (by decide +kernel)]; kernel_rfl) | (rw [if_neg (by decide +kernel)]; exact ⟨rfl, rfl⟩))
    (fun os started H enc _ F => by rw [OpenClaim.pre_eq_preRow]; exact lifted os started H enc F)

theorem plain (f : FuncId) (fn : Func) (hf : Tryz.pinned.checked.prog.funcNamed "turnround/turnroundtop.TopTowerServed" = some f) (hfn : Tryz.pinned.checked.prog.funcs[f]? = some fn) :
    false = Tryz.pinned.checked.prog.looks [] ∧ ∀ (j : Nat) t, fn.params[j]? = some t → Tryz.pinned.checked.prog.wantsStandIn t = false := by
  obtain rfl : f = 3 := Option.some.inj ((show Tryz.prog.funcNamed "turnround/turnroundtop.TopTowerServed" = some 3 by kernel_rfl).symm.trans hf) |>.symm
  obtain rfl : fn = Tryz.f3 := (Option.some.inj (Tryz.func3.symm.trans hfn)).symm
  refine ⟨by kernel_rfl, fun j t ht => ?_⟩
  rw [Tryz.params3] at ht
  have hm := Array.mem_of_getElem? ht
  simp only [List.mem_toArray, List.mem_cons, List.not_mem_nil, or_false] at hm
  rcases hm with rfl | rfl | rfl
  · exact (show Tryz.prog.wantsStandIn 22 = false by kernel_rfl)
  · exact (show Tryz.prog.wantsStandIn 23 = false by kernel_rfl)
  · exact (show Tryz.prog.wantsStandIn 26 = false by kernel_rfl)
theorem goes : false = Rows.topTowerServedUptoRow.goesBy Tryz.pinned.checked.prog := by kernel_rfl
theorem wft : Rows.topTowerServedUptoRow.wfByText (Rows.OpenSpec.upto Rows.topTowerServedSpec) = true := by kernel_rfl

end Go.Proofs.YtkgcnknhkobmjaaGreatDoor.CardTopTowerServed
namespace Go.Proofs.YtkgcnknhkobmjaaGreatDoor
open CardTopTowerServed
theorem topTowerServedUpto_card : Rows.TopTowerServedUptoCardSaid :=
  Claim7.holds_tied_plain_at .later [] _ _ _ _ said (fun _ h => by cases h) wft (fun _ h => by cases h) topTowerServedUpto_row_tie rfl ⟨rfl, rfl⟩ (by kernel_rfl) rfl plain goes
end Go.Proofs.YtkgcnknhkobmjaaGreatDoor
