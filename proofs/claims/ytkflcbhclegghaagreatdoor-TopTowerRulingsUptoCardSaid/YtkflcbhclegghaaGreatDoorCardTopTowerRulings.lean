/-
  TopTowerRulings: the card is closed out of the proved law: for every input the call returns true, and the input reads as before. Where the input is of bulk at most 1048576.
-/
import Derived.Test.YtkflcbhclegghaaGreatDoorCards
import Derived.Test.YtkflcbhclegghaaGreatDoorTie
import Derived.Test.YtkflcbhclegghaaGreatDoorRead
import Derived.Test.YtkflcbhclegghaaGreatDoorFrame
import Derived.Test.YtkflcbhclegghaaGreatDoorSeat
import Derived.Test.YtkflcbhclegghaaGreatDoorTwm
import Derived.WalkKit
import Derived.Lay
import Derived.MakeChecks
import Derived.Deep.DeepWitnessRowRef
import Derived.ProofKit
import Derived.OpenShut
import Derived.Deep.DeepHandedRow
import Derived.Lib.LaidTab
namespace Go.Proofs.YtkflcbhclegghaaGreatDoor.CardTopTowerRulings
open Go.ChangeShapes Go.WideShapes Go.ChangeAt Go.RowKit Go.Evl Go.Proofs.YtkflcbhclegghaaGreatDoor.Co

theorem own : ownKnob Tryz.prog.godebug = none := by kernel_rfl
theorem laidOut : laidOutB Tryz.prog = true := by kernel_rfl
theorem tab0 {W : World} {ps : List MemPlace} (h : DataW.LaidVars Tryz.prog W Rows.topTowerRulingsUptoRow.laid ps) : Lib.TabIs Tryz.prog W "internal/strconv.uint64pow10" .u64 [1, 10, 100, 1000, 10000, 100000, 1000000, 10000000, 100000000, 1000000000, 10000000000, 100000000000, 1000000000000, 10000000000000, 100000000000000, 1000000000000000, 10000000000000000, 100000000000000000, 1000000000000000000, 10000000000000000000] :=
  yry (t := 365) (e := 305) (n := 20) (g := 1) (by kernel_rfl) (by kernel_rfl) Tryz.underlying365 Tryz.underlying305 (by kernel_rfl) (by kernel_rfl) _ ps (by unfold Rows.topTowerRulingsUptoRow; repeat (first | exact List.Mem.head _ | apply List.Mem.tail)) h
theorem err0 {W : World} {ps : List MemPlace} (h : DataW.LaidVars Tryz.prog W Rows.topTowerRulingsUptoRow.laid ps) : ∃ te pe, World.var? Tryz.prog W "strconv.ErrSyntax" = some #[.iface te pe] :=
  yrx (g := 2) (t := 272) (by kernel_rfl) (by kernel_rfl) Tryz.underlying272 _ ps (by unfold Rows.topTowerRulingsUptoRow; repeat (first | exact List.Mem.head _ | apply List.Mem.tail)) h
theorem err1 {W : World} {ps : List MemPlace} (h : DataW.LaidVars Tryz.prog W Rows.topTowerRulingsUptoRow.laid ps) : ∃ te pe, World.var? Tryz.prog W "strconv.ErrRange" = some #[.iface te pe] :=
  yrx (g := 3) (t := 272) (by kernel_rfl) (by kernel_rfl) Tryz.underlying272 _ ps (by unfold Rows.topTowerRulingsUptoRow; repeat (first | exact List.Mem.head _ | apply List.Mem.tail)) h
theorem start {W : World} (h : laidMetH Tryz.prog Rows.topTowerRulingsUptoRow.laid W) (hsh : W.ShapedOpen Tryz.prog) : ∃ mx, Sim (ztl Tryz.prog (globsM mx)) (globsM mx) (zv9 W) := by
  have h' : laidMet Tryz.prog Rows.topTowerRulingsUptoRow.laid W := by rw [← MakeChecks.laidMetH_plain _ _ _ (by kernel_rfl)]; exact h
  obtain ⟨ps, hl, _⟩ := h'
  obtain ⟨mx, k⟩ := yw8 (P := Tryz.prog) (g := 0) (t := 3) (zero := #[.int .i64 0]) hsh (of_decide_eq_true (by kernel_rfl)) (by kernel_rfl) rfl (by kernel_rfl) (by kernel_rfl) Tryz.underlying3
  refine ⟨mx, yxi fun g cs hg => ?_⟩
  simp only [globsM, globs, List.mem_cons, Prod.mk.injEq, List.not_mem_nil, or_false] at hg
  rcases hg with ⟨rfl, rfl⟩ | ⟨rfl, rfl⟩ | ⟨rfl, rfl⟩ | ⟨rfl, rfl⟩
  · exact k
  · obtain ⟨k1, k2⟩ := yyr (g := 1) (yq3 W) (by kernel_rfl) (tab0 hl)
    exact ⟨k1, by simp, k2⟩
  · exact yyq (yq3 W) (by kernel_rfl) (err0 hl)
  · exact yyq (yq3 W) (by kernel_rfl) (err1 hl)

set_option maxRecDepth 100000 in
theorem contract (H : Type) (enc : TypeId × Value → H) (W : World) (base : Nat) (args : Array Value) (ds gs : List (DataW H)) (before : List MemPlace)
    (hval : ∀ (j : Nat) t v, Tryz.f3.params[j]? = some t → args[j]? = some v → Value.okWide Tryz.prog W .any base t v)
    (hW : DataW.Whole enc Tryz.prog Tryz.f3.params.toList Rows.topTowerRulingsSpec.vars false W args.toList ds gs before) (hL : laidMetH Tryz.prog Rows.topTowerRulingsUptoRow.laid W) (hsh : W.ShapedOpen Tryz.prog) (hB : Rows.uptoBulkAll (ds ++ gs) ≤ 1048576) :
    Calls Tryz.prog 3 args W fun e W' => ∃ v, e = .returned v ∧ Rows.topTowerRulingsSpec.post enc Tryz.prog Tryz.f3 false true false false W args v W' := by
  have hW' := hW
  obtain ⟨p, q, hA, hV, rfl, hfz, hnd⟩ := hW
  rw [Tryz.params3] at hA hval
  obtain ⟨rfl, rfl⟩ := trodVars_none hV
  have hA0 := hA
  obtain ⟨v0, vs0, d0, ds0, p0, q0, hargs0, rfl, hp0, h0, r0⟩ := trodAll_cons hA
  obtain ⟨v1, vs1, d1, ds1, p1, q1, hargs1, rfl, hp1, h1, r1⟩ := trodAll_cons r0
  subst hargs1
  obtain ⟨rfl, rfl, hq⟩ := trodAll_nil r1
  have hal : args.toList = [v0, v1] := hargs0
  obtain rfl : args = #[v0, v1] := by cases args; simp_all
  obtain ⟨xs, hx, hfit, hsm⟩ := yus (B := 1048576) (yq3 W) (zv9 W) rfl rfl _ _ _ _ (by decide +kernel) (fun j t v h1 h2 => hval j t v (by simpa using h1) (by simpa using h2)) hA0
  obtain ⟨E, hE⟩ := exists_good
  have hlaw := ylm hE hfit (hsm (by simpa using hB))
  obtain ⟨mx, hst⟩ := start hL hsh
  refine (yxt mixed (ext_ok mx) (code_ok mx) hE.lim hst hlaw hx).mono fun e W' hh => ?_
  obtain ⟨rfl, hb⟩ := hh
  have hlt : ∀ x ∈ p, x.block < W.heap.size := fun x hx => hW'.lt x (by simpa using hx)
  exact ⟨_, rfl, law_post (t := 4) (by simpa using hW') rfl rfl (by kernel_rfl) Tryz.underlying4 hb fun sp hsp => by
    have := ya5 (sp' := sp) laidOut _ _ _ _ (by decide +kernel) hA0 (fun x hx => hb.same (hlt x hx)) (fun x hx => hsp x (by simpa using hx))
    simpa using this⟩

/-- A world for the witness: the settled one, the tables holding what their initialisers lay. -/
noncomputable def laidWorld (os : Os) : World := World.laidAll Tryz.prog os Rows.topTowerRulingsUptoRow.laid
theorem laid_met (os : Os) : laidMet Tryz.prog Rows.topTowerRulingsUptoRow.laid ((laidWorld os).forCall (fun _ _ => 0) ⟨#[], #[.slice none 0 0, .slice none 0 0], []⟩).memory :=
  laidMet_laidAll _ (by kernel_rfl) (by kernel_rfl)
theorem reads (os : Os) {H : Type} (enc : TypeId × Value → H) : ∃ places, DataW.whole enc Tryz.prog ((laidWorld os).forCall (fun _ _ => 0) ⟨#[], #[.slice none 0 0, .slice none 0 0], []⟩).memory Tryz.f3.params.toList Rows.topTowerRulingsSpec.vars false (#[.slice none 0 0, .slice none 0 0] : Array Value).toList 8 = some ([.nil, .nil], [], places) :=
  ⟨[], by kernel_rfl⟩

set_option maxRecDepth 100000 in
theorem lifted (os : Os) (started : os.Started) (H : Type) (enc : TypeId × Value → H) (F : Stop.Interp) :
    ReturnsInHanded {} Tryz.checked os 3 .any ((Rows.OpenSpec.upto Rows.topTowerRulingsSpec).preRow enc Tryz.prog Tryz.f3 Rows.topTowerRulingsUptoRow.domain false Rows.topTowerRulingsUptoRow.laid) (((Rows.OpenSpec.upto Rows.topTowerRulingsSpec).at F).post enc Tryz.prog Tryz.f3 false true false false) := by
  obtain ⟨places, hx⟩ := reads os enc
  refine returnsInHanded_of_row (C := Tryz.checked) (s := Rows.OpenSpec.upto Rows.topTowerRulingsSpec) own started (by kernel_rfl) Tryz.func3
    (witness_row_atRef (enc := enc) (C := Tryz.checked) false (laidWorld os) #[.slice none 0 0, .slice none 0 0] (World.laidAll_os _ _ _) (by kernel_rfl) (by kernel_rfl) (by kernel_rfl)
      (OpenSpec.preRow_of_cond 8 hx (by kernel_rfl) (fun k hk => by cases hk; kernel_rfl) (by kernel_rfl) (by rw [MakeChecks.laidMetH_plain _ _ _ (by kernel_rfl)]; exact laid_met os))) ?_
  intro W base args ds gs before hval hW _ hcond _ hL hsh _
  exact contract H enc W base args ds gs before hval hW hL hsh (of_decide_eq_true (hcond _ rfl))

set_option maxRecDepth 100000 in
set_option maxHeartbeats 0 in
theorem closed : joinedFacts Tryz.prog 3 Tryz.f3 Rows.topTowerRulingsSpec Rows.topTowerRulingsUptoRow = true := by
  unfold joinedFacts
  simp only [Bool.and_eq_true]
  repeat' apply And.intro
  all_goals as_aux_lemma => kernel_rfl
set_option maxRecDepth 100000 in
theorem said : Rows.TopTowerRulingsUptoSaid :=
  OpenClaim.holds_of_cond 3 Tryz.f3 rfl rfl rfl rfl rfl rfl rfl ⟨rfl, rfl, rfl, rfl, rfl⟩ rfl rfl rfl rfl rfl (by kernel_rfl) Tryz.func3 closed
    (of_decide_eq_true (by kernel_rfl)) (by unfold Func.isWrapper; first | (rw [if_pos (by decide +kernel)]; kernel_rfl) | (rw [if_neg (by decide +kernel)]; exact ⟨rfl, rfl⟩))
    (fun os started H enc _ F => by rw [OpenClaim.pre_eq_preRow]; exact lifted os started H enc F)

theorem plain (f : FuncId) (fn : Func) (hf : Tryz.pinned.checked.prog.funcNamed "turnround/turnroundtop.TopTowerRulings" = some f) (hfn : Tryz.pinned.checked.prog.funcs[f]? = some fn) :
    true = Tryz.pinned.checked.prog.looks [] ∧ ∀ (j : Nat) t, fn.params[j]? = some t → Tryz.pinned.checked.prog.wantsStandIn t = false := by
  obtain rfl : f = 3 := Option.some.inj ((show Tryz.prog.funcNamed "turnround/turnroundtop.TopTowerRulings" = some 3 by kernel_rfl).symm.trans hf) |>.symm
  obtain rfl : fn = Tryz.f3 := (Option.some.inj (Tryz.func3.symm.trans hfn)).symm
  refine ⟨by kernel_rfl, fun j t ht => ?_⟩
  rw [Tryz.params3] at ht
  have hm := Array.mem_of_getElem? ht
  simp only [List.mem_toArray, List.mem_cons, List.not_mem_nil, or_false] at hm
  rcases hm with rfl | rfl
  · exact (show Tryz.prog.wantsStandIn 22 = false by kernel_rfl)
  · exact (show Tryz.prog.wantsStandIn 23 = false by kernel_rfl)
theorem goes : false = Rows.topTowerRulingsUptoRow.goesBy Tryz.pinned.checked.prog := by kernel_rfl
theorem wft : Rows.topTowerRulingsUptoRow.wfByText (Rows.OpenSpec.upto Rows.topTowerRulingsSpec) = true := by kernel_rfl

end Go.Proofs.YtkflcbhclegghaaGreatDoor.CardTopTowerRulings
namespace Go.Proofs.YtkflcbhclegghaaGreatDoor
open CardTopTowerRulings
theorem topTowerRulingsUpto_card : Rows.TopTowerRulingsUptoCardSaid :=
  Claim7.holds_tied_plain_at .later [] _ _ _ _ said (fun _ h => by cases h) wft (fun _ h => by cases h) topTowerRulingsUpto_row_tie rfl ⟨rfl, rfl⟩ (by kernel_rfl) rfl plain goes
end Go.Proofs.YtkflcbhclegghaaGreatDoor
