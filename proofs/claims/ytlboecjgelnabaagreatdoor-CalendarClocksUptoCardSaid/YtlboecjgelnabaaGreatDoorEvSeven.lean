
/-
  All the operations that call nobody, together.
-/
import Derived.Test.YtlboecjgelnabaaGreatDoorEvSix
namespace Go.Evl
open Go.RowKit

section
variable {P : Program} {oc : Codes} {gl : Globs} {s : S} {A : Act} {o : Oper} {e : Env}

def okOp (P : Program) (gl : Globs) (o : Oper) : COp → Bool
  | .mv x => okMv gl o x
  | .ownNil r => okOwnNil o r
  | .pick c a b => okPick gl o c a b
  | .alloc t cs => okAlloc P o t cs
  | .box t x => okBox gl o t x
  | .build z ps => okBuild P gl o z ps
  | .mkList sz n ps => okMk P gl o sz n ps
  | .mkRow r n ps => okMkRow P gl o r n ps
  | .load n a => okLoad P gl o n a
  | .store n a x => okStore P gl o n a x
  | .nilCheck x => okNilCheck gl o x
  | .bin op x y => okBin gl o op x y
  | .eqv ks neg x y => okEqv P gl o ks neg x y
  | .un op x => okUn gl o op x
  | .conv k x => okConv P gl o k x
  | .mkFunc f a b => okFunc gl o f a b
  | .makeRow r z n => okMake P gl o r z n
  | .sliceS x lo hi => okSliceS P gl o x lo hi
  | .slice sz x lo hi mx => okSlice P gl o sz x lo hi mx
  | .fieldAddr off x => okFieldAddr P gl o off x
  | .field off n x => okField P gl o off n x
  | .idxAddr sz x i => okIdxAddr P gl o sz x i
  | .idxAddrA len sz x i => okIdxAddrA P gl o len sz x i
  | .idxS x i => okIdxS P gl o x i
  | .idxA len sz n x i => okIdxA P gl o len sz n x i
  | .mkMap => okMkMap o
  | .lookup kk z c m k => okLookup P gl o kk z c m k
  | .mapSet kk m k x => okMapSet P gl o kk m k x
  | .rangeS x => okRange P gl o x
  | .nextS x => okNext gl o x
  | .extract x i => okExtract gl o x i
  | .call .. => false
  | .len k x => okLen P gl o k x
  | .append r a x => okAppend P gl o r a x
  | .appendS r a x => okAppendS P gl o r a x
  | .copy sz a x => okCopy P gl o sz a x
  | .minmax mx args => okMinmax gl o mx args
  | .clear z x => okClear P gl o z x

def Does (P : Program) (oc : Codes) (gl : Globs) (s : S) (A : Act) (o : Oper) (v : V) (m' : Mem) : Prop :=
  Gives P oc gl s A o v m' ∨ (v = .skip ∧ GivesU P oc gl s A o m')

theorem sound_op (hs : Sim oc gl s) (he : EnvR s e A.tmps) (F : Oracle) (cx : Cx) (slot : Nat) {op : COp} {v : V} {m' : Mem} (ok : okOp P gl o op = true) (h : evOp F cx slot e s.m op = some (v, m')) : Does P oc gl s A o v m' := by
  cases op <;> simp only [okOp] at ok <;> simp only [evOp] at h
  case mv x =>
    simp only [Option.some.injEq, Prod.mk.injEq] at h; obtain ⟨rfl, rfl⟩ := h
    exact .inl (sound_mv hs he ok)
  case ownNil r =>
    simp only [Option.some.injEq, Prod.mk.injEq] at h; obtain ⟨rfl, rfl⟩ := h
    exact .inl (sound_ownNil hs cx slot ok)
  case pick c a b =>
    split at h <;> try cases h
    exact .inl (sound_pick hs he ok ‹_›)
  case alloc cs =>
    simp only [Option.some.injEq, Prod.mk.injEq] at h; obtain ⟨rfl, rfl⟩ := h
    exact .inl (sound_alloc hs cx slot ok)
  case box x =>
    split at h <;> try cases h
    exact .inl (sound_box hs he cx slot ok ‹_›)
  case build z ps =>
    simp only [Option.map_eq_some_iff, Prod.mk.injEq] at h
    obtain ⟨cs, hf, rfl, rfl⟩ := h
    exact .inl (sound_build hs he cx slot ok hf)
  case mkList sz n ps =>
    simp only [Option.map_eq_some_iff, Prod.mk.injEq] at h
    obtain ⟨cs, hf, rfl, rfl⟩ := h
    exact .inl (sound_mkList hs he ok hf)
  case mkRow r n ps =>
    simp only [Option.map_eq_some_iff, Prod.mk.injEq] at h
    obtain ⟨cs, hf, rfl, rfl⟩ := h
    exact .inl (sound_mkRow hs he cx slot ok hf)
  case load n a =>
    simp only [Option.map_eq_some_iff, Prod.mk.injEq] at h
    obtain ⟨cs, hf, rfl, rfl⟩ := h
    exact .inl (sound_load hs he ok hf)
  case store n a x =>
    simp only [Option.map_eq_some_iff, Prod.mk.injEq] at h
    obtain ⟨cs, hf, rfl, rfl⟩ := h
    exact .inr ⟨rfl, sound_store hs he ok hf⟩
  case nilCheck x => exact .inl (sound_nilCheck hs he ok h)
  case bin op x y =>
    simp only [Option.map_eq_some_iff, Prod.mk.injEq] at h
    obtain ⟨cs, hf, rfl, rfl⟩ := h
    exact .inl (sound_bin hs he ok hf)
  case eqv ks neg x y =>
    simp only [Option.map_eq_some_iff, Prod.mk.injEq] at h
    obtain ⟨cs, hf, rfl, rfl⟩ := h
    exact .inl (sound_eqv hs he ok hf)
  case un op x =>
    simp only [Option.map_eq_some_iff, Prod.mk.injEq] at h
    obtain ⟨cs, hf, rfl, rfl⟩ := h
    exact .inl (sound_un hs he ok hf)
  case conv k x =>
    split at h <;> try cases h
    exact .inl (sound_conv hs he ok ‹_›)
  case mkFunc f a b =>
    simp only [Option.some.injEq, Prod.mk.injEq] at h; obtain ⟨rfl, rfl⟩ := h
    exact .inl (sound_func hs he ok)
  case makeRow r z n =>
    split at h <;> try cases h
    split at h <;> try cases h
    rename_i hx hc
    exact .inl (hc.2.1 ▸ sound_make hs he cx slot ok hx hc.1 hc.2.2)
  case sliceS x lo hi =>
    split at h <;> try cases h
    split at h <;> try cases h
    exact .inl (sound_sliceS hs he ok ‹_› ‹_›)
  case slice sz x lo hi mx =>
    simp only [Option.map_eq_some_iff, Prod.mk.injEq] at h
    obtain ⟨cs, hf, rfl, rfl⟩ := h
    exact .inl (sound_slice hs he ok hf)
  case fieldAddr off x =>
    simp only [Option.map_eq_some_iff, Prod.mk.injEq] at h
    obtain ⟨cs, hf, rfl, rfl⟩ := h
    exact .inl (sound_fieldAddr hs he ok hf)
  case field off n x =>
    simp only [Option.map_eq_some_iff, Prod.mk.injEq] at h
    obtain ⟨cs, hf, rfl, rfl⟩ := h
    exact .inl (sound_field hs he ok hf)
  case idxAddr sz x i =>
    simp only [Option.map_eq_some_iff, Prod.mk.injEq] at h
    obtain ⟨cs, hf, rfl, rfl⟩ := h
    exact .inl (sound_idxAddr hs he ok hf)
  case idxAddrA len sz x i =>
    split at h <;> try cases h
    split at h <;> try cases h
    simp only [Option.map_eq_some_iff, Prod.mk.injEq] at h
    obtain ⟨cs, hf, rfl, rfl⟩ := h
    exact .inl (sound_idxAddrA hs he ok ‹_› ‹_› hf)
  case idxS x i =>
    split at h <;> try cases h
    split at h <;> try cases h
    simp only [Option.map_eq_some_iff, Prod.mk.injEq] at h
    obtain ⟨cs, hf, rfl, rfl⟩ := h
    exact .inl (sound_idxS hs he ok ‹_› ‹_› ‹_› hf)
  case idxA len sz n x i =>
    split at h <;> try cases h
    split at h <;> try cases h
    simp only [Option.map_eq_some_iff, Prod.mk.injEq] at h
    obtain ⟨cs, hf, rfl, rfl⟩ := h
    exact .inl (sound_idxA hs he ok ‹_› ‹_› hf)
  case mkMap =>
    simp only [Option.some.injEq, Prod.mk.injEq] at h; obtain ⟨rfl, rfl⟩ := h
    exact .inl (sound_mkMap hs cx slot ok)
  case lookup kk z c m k =>
    simp only [Option.map_eq_some_iff, Prod.mk.injEq] at h
    obtain ⟨cs, hf, rfl, rfl⟩ := h
    exact .inl (sound_lookup hs he ok hf)
  case mapSet kk m k x =>
    simp only [Option.map_eq_some_iff, Prod.mk.injEq] at h
    obtain ⟨cs, hf, rfl, rfl⟩ := h
    exact .inr ⟨rfl, sound_mapSet hs he ok hf⟩
  case rangeS x =>
    split at h <;> try cases h
    exact .inl (sound_range hs he cx slot ok ‹_›)
  case nextS x => exact .inl (sound_next hs he ok h)
  case extract x i =>
    split at h <;> try cases h
    simp only [Option.map_eq_some_iff, Prod.mk.injEq] at h
    obtain ⟨cs, hf, rfl, rfl⟩ := h
    exact .inl (sound_extract hs he ok ‹_› hf)
  case call => cases ok
  case len k x =>
    simp only [Option.map_eq_some_iff, Prod.mk.injEq] at h
    obtain ⟨cs, hf, rfl, rfl⟩ := h
    exact .inl (sound_len hs he ok hf)
  case append r a x => exact .inl (sound_append hs he cx slot ok h)
  case appendS r a x => exact .inl (sound_appendS hs he cx slot ok h)
  case copy sz a x => exact .inl (sound_copy hs he ok h)
  case minmax mx args =>
    simp only [Option.map_eq_some_iff, Prod.mk.injEq] at h
    obtain ⟨cs, hf, rfl, rfl⟩ := h
    exact .inl (sound_minmax hs he ok hf)
  case clear z x =>
    simp only [Option.map_eq_some_iff, Prod.mk.injEq] at h
    obtain ⟨cs, hf, rfl, rfl⟩ := h
    exact .inl (sound_clear hs he ok hf)

/-! ### Within the walk -/

/-- The fence that lets all in: in a frame of a function's, or of a round's. -/
def fen (r : Option Nat) : Fence := { fn := fun _ => True, depth := none, alive := false, round := r }

theorem fen_none : fen none = Fence.wide := rfl

/-- The operation goes through, and both sides go on alike. -/
def OpOk (P : Program) (oc : Codes) (gl : Globs) (r : Option Nat) (s : S) (A : Act) (o : Oper) (v : V) (m' : Mem) : Prop :=
  ∀ (next : Act → World → Prop) (Q : Exit → Act → World → Prop), (∀ s' x, Sim oc gl s' → Ext (fun _ => True) s s' → s'.m = m' → VR s' v x → next (A.put o.dst x) s'.w) → o.wpIn (fen r) 0 P A s.w next Q

theorem not_defer {w w' : World} {n : Next} (h : (execOp A.eval o).run P w = .ok n w') (hn : ∀ d, n ≠ .defer d) : ∀ c, o.op ≠ .defer c := by
  intro c hc
  simp only [execOp, hc, Sem.run_bind] at h
  cases hr : (resolve A.eval c o.type).run P w with
  | ok d w1 =>
    rw [hr] at h
    simp only [Result.andThen_ok, Sem.run_pure, Result.ok.injEq] at h
    exact hn d h.1.symm
  | halt x w1 => rw [hr] at h; simp [Result.andThen] at h

theorem Does.ok {r : Option Nat} {v : V} {m' : Mem} (h : Does P oc gl s A o v m') : OpOk P oc gl r s A o v m' := by
  intro next Q hn
  refine ⟨fun _ _ => trivial, ?_⟩
  rcases h with ⟨s', x, hr, h1, h2, h3, h4⟩ | ⟨rfl, s', hr, h1, h2, h3⟩
  · rw [Oper.semAt_eq _ _ _ (not_defer hr (by simp)), hr]
    exact hn s' x h1 h2 h3 h4
  · rw [Oper.semAt_eq _ _ _ (not_defer hr (by simp)), hr]
    exact hn s' undef h1 h2 h3 rfl

end
end Go.Evl

