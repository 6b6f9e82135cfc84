
/-
  Calls: of functions, in memory of their own or in the caller's; of a loop's round.
-/
import Derived.Test.YtlboecjgelnabaaGreatDoorEvNine
import Derived.RangeFuncLeaves
namespace Go.Evl
open Go.RowKit

section
variable {P : Program} {oc : Codes} {gl : Globs}

def Enters (P : Program) (f : Nat) : Prop := ∃ fn, P.funcs[f]? = some fn ∧ fn.name ≠ "runtime.NumGoroutine" ∧ fn.body ≠ none

/-- How a call, or a round, ends. -/
def EndsIn (oc : Codes) (gl : Globs) (s : S) (v : V) (m' : Mem) : Ending → World → Prop :=
  fun e w' => ∃ s' x, e = .returned x ∧ s'.w = w' ∧ Sim oc gl s' ∧ Ext (fun _ => True) s s' ∧ s'.m = m' ∧ VR s' v x

def GoodCall (P : Program) (oc : Codes) (gl : Globs) (F : Oracle) : Prop :=
  ∀ lv f args m v m', F (.call lv f args m) = some (.val v m') → Enters P f ∧
    ∀ s, Sim oc gl s → s.m = m → ∀ xs : List Value, VRt s args xs → CallsIn Fence.wide 0 P f xs.toArray s.w (EndsIn oc gl s v m')

def putAll (ps : List Nat) (xs : List Value) (tmps : Array Value) : Array Value := (ps.toArray.zip xs.toArray).foldl (fun tmps (t, a) => tmps.setIfInBounds t a) tmps

def GoodRound (P : Program) (oc : Codes) (gl : Globs) (F : Oracle) : Prop :=
  ∀ nx o args m v m', F (.round nx o args m) = some (.val v m') → (∃ e ps a b lv bu ov j, look m o = some (.loop e ps a b lv bu ov j)) ∧
    ∀ s, Sim oc gl s → s.m = m → ∀ xs : List Value, VRt s args xs → ∀ l, s.φ o = .pointer (some ⟨l, 0, none⟩) → ∃ L, s.w.heap[l]? = some (.loop L) ∧ L.params.size = xs.length ∧
      RoundIn Fence.wide 0 P l L.fn ((L.params.zip xs.toArray).foldl (fun tmps (t, a) => tmps.setIfInBounds t a) L.tmps) L.assign L.body s.w (EndsIn oc gl s v m')

theorem VRt.length {s : S} : ∀ (cs : List V) (xs : List Value), VRt s cs xs → cs.length = xs.length
  | [], _, h => by simp only [VRt] at h; subst h; rfl
  | _ :: r, _, ⟨x, ys, h1, _, h4⟩ => by subst h1; simp [VRt.length r ys h4]

theorem VRt.append {s : S} : ∀ (a : List V) (x : List Value) (b : List V) (y : List Value), VRt s a x → VRt s b y → VRt s (a ++ b) (x ++ y)
  | [], _, b, y, h, k => by simp only [VRt] at h; subst h; exact k
  | _ :: r, _, b, y, ⟨x, ys, h1, h3, h4⟩, k => by subst h1; exact ⟨x, ys ++ y, rfl, h3, VRt.append r ys b y h4 k⟩

theorem frzT_ok {s s' : S} (hs : Sim oc gl s) (hw : s'.w = s.w) (him : s'.Im = s.Im) : ∀ (cs : List V) (ds : List D) (xs : List Value), freezeL false s.m cs = some ds → VRt s cs xs → VRt s' (asV ds) xs
  | [], ds, xs, h, hv => by simp only [freezeL, Option.some.injEq] at h; subst h; exact hv
  | v :: r, ds, xs, h, hv => by
    obtain ⟨x, ys, rfl, h2, h3⟩ := hv
    simp only [freezeL] at h
    split at h
    · rename_i d ds' e1 e2
      obtain rfl := Option.some.inj h
      refine ⟨x, ys, rfl, ?_, frzT_ok hs hw him r ds' ys e2 h3⟩
      have := freeze_ok hs v d x e1 h2
      show DR s'.w s'.Im d x
      rw [hw, him]; exact this
    · cases h

def okCall (gl : Globs) (o : Oper) (f : Opd) (args : List Opd) : Bool :=
  match o.op with
  | .call c =>
    match c.callee with
    | .value g => okX gl g f && okXs gl c.args.toList args
    | _ => false
  | _ => false

theorem run_callFunc {f : Nat} {args : Array Value} {w : World} (h : Enters P f) : (callFunc f args).run P w = .ok (.enter f args) w := by
  obtain ⟨fn, h1, h2, h3⟩ := h
  simp [callFunc, run_program, h1, h2, h3]

theorem sim_empty {s : S} (hs : Sim oc gl s) : Sim oc gl ⟨s.φ, [], s.w, s.Im⟩ :=
  ⟨fun i o h => by simp [look] at h, fun i j o o' b _ h => by simp [look] at h, hs.imlt, hs.glob, fun g cs hg => ⟨fun i o h => by simp [look] at h, (hs.tabs g cs hg).2⟩⟩

theorem sound_call {F : Oracle} (hF : GoodCall P oc gl F) (hR : GoodRound P oc gl F) {s : S} {A : Act} {o : Oper} {e : Env} (hs : Sim oc gl s) (he : EnvR s e A.tmps) (r : Option Nat) (cx : Cx) (slot : Nat) {shared imm : Bool} {f : Opd} {args : List Opd} {v : V} {m' : Mem}
    (ok : okCall gl o f args = true) (h : callV F cx slot shared imm (f.ev e) (evs e args) s.m = some (v, m')) : OpOk P oc gl r s A o v m' := by
  unfold okCall at ok
  split at ok <;> try cases ok
  rename_i c ho
  split at ok <;> try cases ok
  rename_i g hc
  simp only [Bool.and_eq_true] at ok
  have hf := okX_ok hs he ok.1
  have hargs := okXs_ok hs he _ _ ok.2
  generalize f.ev e = vf at hf h
  generalize evs e args = vs at hargs h
  intro next Q hn
  refine ⟨fun _ _ => trivial, ?_⟩
  rw [Oper.semAt_eq _ _ _ (fun c' hc' => by rw [ho] at hc'; cases hc')]
  have hmap : (c.args.map A.eval).toList = c.args.toList.map A.eval := by simp
  -- how a function is entered
  have enter : ∀ (fid : Nat) (xs ys : Array Value) (R : Ending → World → Prop), A.eval g = .func (.func fid) xs ys → Enters P fid → CallsIn Fence.wide 0 P fid (xs.toList ++ (c.args.toList.map A.eval) ++ ys.toList).toArray s.w R →
      (∀ e' w', R e' w' → ∃ x, e' = .returned x ∧ next (A.put o.dst x) w') → o.uponIn (fen r) 0 P A next Q ((execOp A.eval o).run P s.w) := by
    intro fid xs ys R hg hen hcall hnext
    have hrun : (execOp A.eval o).run P s.w = .ok (.enter fid (xs ++ c.args.map A.eval ++ ys)) s.w := by
      simp [execOp, ho, Go.resolve, hc, hg, Deferred.ofValue, invoke, run_callFunc hen]
    rw [hrun]
    refine ⟨fun h => by simp [fen] at h, ?_⟩
    have harr : (xs.toList ++ (c.args.toList.map A.eval) ++ ys.toList).toArray = xs ++ c.args.map A.eval ++ ys := by
      apply Array.ext'; simp
    rw [harr] at hcall
    exact CallsIn.mono (F := fen r) (n := 0) hcall fun e' w' hr => by
      obtain ⟨x, rfl, hx⟩ := hnext e' w' hr
      exact hx
  unfold callV at h
  split at h
  · split at h <;> try cases h
    rename_i hlow
    split at h <;> try cases h
    rename_i v1 m1 hsh
    split at h <;> try cases h
    rename_i hids
    have back : ∀ e' w', EndsIn oc gl s v1 m1 e' w' → ∃ x, e' = .returned x ∧ next (A.put o.dst x) w' := by
      rintro e' w' ⟨s1, x, rfl, rfl, k1, k2, rfl, k4⟩
      obtain ⟨s', hw', q1, q2, q3, q4⟩ := take_ok (back_shared k1 k2 hlow hids) h k4
      exact ⟨x, rfl, hw' ▸ hn s' x q1 q2 q3 q4⟩
    unfold callShared at hsh
    split at hsh
    · rename_i fid first caps
      split at hsh <;> try cases hsh
      rename_i v2 m2 hcall
      obtain ⟨xs, ys, hg, hx, hy⟩ := hf
      obtain ⟨hen, hgo⟩ := hF _ _ _ _ _ _ hcall
      exact enter fid xs ys _ hg hen (hgo s hs rfl _ (VRt.append _ _ _ _ (VRt.append _ _ _ _ hx hargs) hy)) back
    · rename_i i
      split at hsh <;> try cases hsh
      rename_i v2 m2 hround
      obtain ⟨⟨e1, ps, ca, cb, lv, bu, ov, j, hlo⟩, hgo⟩ := hR _ _ _ _ _ _ hround
      obtain ⟨_, hy⟩ := hf
      rw [hlo] at hy
      obtain ⟨l, hp, hg⟩ := hy
      obtain ⟨L, hL, hsz, hgo⟩ := hgo s hs rfl _ hargs l hp
      have harr : (c.args.toList.map A.eval).toArray = c.args.map A.eval := by apply Array.ext'; simp
      rw [harr] at hgo
      have hsz' : c.args.size = L.params.size := by simpa using hsz.symm
      have hrun : (execOp A.eval o).run P s.w = .ok (.round l L.fn ((L.params.zip (c.args.map A.eval)).foldl (fun tmps (t, a) => tmps.setIfInBounds t a) L.tmps) L.assign L.body) s.w := by
        simp [execOp, ho, Go.resolve, hc, hg, Deferred.ofValue, invoke, Instr.yield, Instr.getLoop, getObj, Sem.run, hL, hsz']
      rw [hrun]
      refine ⟨fun h => by simp [fen] at h, ?_⟩
      exact RoundIn.mono (F := fen r) (n := 0) hgo fun e' w' hr => by
        obtain ⟨x, rfl, hx⟩ := back e' w' hr
        exact hx
    · cases hsh
  · split at h <;> try cases h
    rename_i fid first caps
    split at h <;> try cases h
    rename_i ds hfr
    split at h <;> try cases h
    rename_i v1 m1 hcall
    obtain ⟨xs, ys, hg, hx, hy⟩ := hf
    obtain ⟨hen, hgo⟩ := hF _ _ _ _ _ _ hcall
    have hv0 := frzT_ok (s' := ⟨s.φ, [], s.w, s.Im⟩) hs rfl rfl _ _ _ hfr (VRt.append _ _ _ _ (VRt.append _ _ _ _ hx hargs) hy)
    refine enter fid xs ys _ hg hen (hgo ⟨s.φ, [], s.w, s.Im⟩ (sim_empty hs) rfl _ hv0) ?_
    rintro e' w' ⟨s1, x, rfl, rfl, k1, k2, rfl, k4⟩
    obtain ⟨s', hw', q1, q2, q3, q4⟩ := take_ok (back_pure hs k1 k2) h k4
    exact ⟨x, rfl, hw' ▸ hn s' x q1 q2 q3 q4⟩

end
end Go.Evl

