
/-
  The evaluator's memory against the model's: each object lies in blocks of its own; how the steps keep it so.
-/
import Derived.Test.YtlboecjgelnabaaGreatDoorEvRel
namespace Go.Evl
open Go.RowKit

/-! ### Small facts on memories and environments -/

theorem look_upd_same : ∀ (m : Mem) (i : Id) (o : Ob), look (upd m i o) i = some o
  | [], i, o => by simp [upd, look]
  | (j, x) :: r, i, o => by
    simp only [upd]
    split
    · simp [look]
    · rename_i h; simp only [look, h, if_false]; exact look_upd_same r i o
theorem look_upd_other : ∀ (m : Mem) (i k : Id) (o : Ob), i ≠ k → look (upd m i o) k = look m k
  | [], i, k, o, h => by simp [upd, look, h]
  | (j, x) :: r, i, k, o, h => by
    simp only [upd]
    split
    · rename_i e; subst e; simp [look, h]
    · simp only [look]; split
      · rfl
      · exact look_upd_other r i k o h
theorem look_upd (m : Mem) (i k : Id) (o : Ob) : look (upd m i o) k = if i = k then some o else look m k := by
  split
  · rename_i h; subst h; exact look_upd_same m i o
  · rename_i h; exact look_upd_other m i k o h

theorem get_put_same : ∀ (e : Env) (t : Nat) (v : V), get (put e t v) t = v
  | [], t, v => by simp [put, get]
  | (u, x) :: r, t, v => by
    simp only [put]
    split
    · simp [get]
    · rename_i h; simp only [get, h, if_false]; exact get_put_same r t v
theorem get_put_other : ∀ (e : Env) (t u : Nat) (v : V), t ≠ u → get (put e t v) u = get e u
  | [], t, u, v, h => by simp [put, get, h]
  | (a, x) :: r, t, u, v, h => by
    simp only [put]
    split
    · rename_i e; subst e; simp [get, h]
    · simp only [get]; split
      · rfl
      · exact get_put_other r t u v h

/-- A filtered environment holds, at each temporary, what the whole one holds, or nothing is known. -/
theorem get_filter (p : Nat × V → Bool) (hp : ∀ t v v', p (t, v) = p (t, v')) : ∀ (e : Env) (t : Nat), get (e.filter p) t = get e t ∨ get (e.filter p) t = .undef
  | [], t => .inl rfl
  | (u, x) :: r, t => by
    by_cases hu : u = t
    · subst hu
      by_cases hx : p (u, x) = true
      · simp [hx, get]
      · refine .inr ?_
        rw [List.filter_cons, if_neg hx]
        have : ∀ (r : Env), get (r.filter p) u = .undef := by
          intro r
          induction r with
          | nil => rfl
          | cons y r ih =>
            obtain ⟨a, b⟩ := y
            rw [List.filter_cons]
            split
            · rename_i hy
              simp only [get]
              split
              · rename_i e; subst e; exact absurd ((hp a b x).symm.trans hy) hx
              · exact ih
            · exact ih
        exact this r
    · have ih := get_filter p hp r t
      rw [List.filter_cons]
      split
      · simp only [get, hu, if_false]; exact ih
      · simp only [get, hu, if_false]; exact ih

theorem freeK_lt (lv slot : Nat) : ∀ (m : Mem) (i : Id) (o : Ob), look m i = some o → i.lv = lv → i.slot = slot → i.k < freeK lv slot m
  | [], i, o, h, _, _ => by simp [look] at h
  | (j, x) :: r, i, o, h, h1, h2 => by
    simp only [look] at h
    split at h
    · rename_i e; subst e
      simp only [freeK, h1, h2, and_self, if_true]
      omega
    · have := freeK_lt lv slot r i o h h1 h2
      simp only [freeK]
      split <;> omega
theorem newId_fresh (cx : Cx) (slot : Nat) (m : Mem) : look m (newId cx slot m) = none := by
  cases h : look m (newId cx slot m) with
  | none => rfl
  | some o => exact absurd (freeK_lt cx.lv slot m _ o h rfl rfl) (by simp [newId])

theorem blk_own (v : Value) (b : Nat) (h : v.ownBlock = some b) : blk v = some b := by
  cases v <;> simp [Value.ownBlock] at h
  rename_i a n c
  cases a <;> simp at h
  subst h; rfl

/-! ### The relation -/

abbrev Codes := Nat → C → Code → Prop

def EnvR (s : S) (e : Env) (tmps : Array Value) : Prop := ∀ t, VR s (get e t) (tmps.getD t undef)

def KeyD : D → Prop
  | .int .. | .bool _ | .str _ => True
  | _ => False

def MapR (s : S) : List (D × V) → List MapEntry → Prop
  | [], es => es = []
  | (k, v) :: r, es => ∃ e q, es = e :: q ∧ KeyD k ∧ DR s.w s.Im k e.key ∧ VR s v e.val ∧ MapR s r q

def jumpCode : Jump → Code
  | .exit id => .exit id
  | .ret => .ret

def stateOf (busy over : Bool) : LoopState := if busy then .busy else if over then .done else .ready

def ObR (oc : Codes) (s : S) (p : Value) : Ob → Prop
  | .cells t cs => ∃ b xs, p = .pointer (some ⟨b, 0, none⟩) ∧ s.w.heap[b]? = some (.cells xs t (0, 0)) ∧ VRs s cs xs.toList ∧ ∀ j, ¬ s.Im b j
  | .row wr t sz n ds => 0 < sz ∧ ∃ xs, s.w.ownsRow 0 t sz p n xs ∧ DRs s.w s.Im ds xs ∧ ∀ b, p.ownBlock = some b → ∀ j, s.Im b j ↔ (wr = false ∧ j < n * sz)
  | .map es => ∃ b ces clock, p = .map (some b) ∧ s.w.heap[b]? = some (.map ces clock) ∧ MapR s es ces.toList
  | .iter str pos => ∃ b, p = .pointer (some ⟨b, 0, none⟩) ∧ s.w.heap[b]? = some (.stringIter ⟨str.toArray⟩ pos)
  | .loop e ps a b _ busy over jump => ∃ l L, p = .pointer (some ⟨l, 0, none⟩) ∧ s.w.heap[l]? = some (.loop L) ∧ L.params = ps.toArray ∧ (∀ t ∈ ps, t < L.tmps.size) ∧ EnvR s e L.tmps ∧
      oc L.tmps.size a L.assign ∧ oc L.tmps.size b L.body ∧ L.state = stateOf busy over ∧ L.pending = jump.map jumpCode
  | .gone => True


/-- The tables lie whole in blocks that nothing else lies in. -/
def Tabs (gl : Globs) (s : S) : Prop := ∀ g cs, (g, cs) ∈ gl → Free s g ∧ cs ≠ [] ∧ ∃ arr t fz, s.w.heap[g]? = some (.cells arr t fz) ∧ arr.size = cs.length

theorem Tabs.ext {K : Id → Prop} {gl : Globs} {s s' : S} (h : Tabs gl s) (hE : Ext K s s') : Tabs gl s' := fun g cs hg => by
  obtain ⟨h1, h2, arr, t, fz, h3, h4⟩ := h g cs hg
  obtain ⟨k1, k2⟩ := hE.frame g (Array.getElem?_eq_some_iff.1 h3).1 h1
  exact ⟨k2, h2, arr, t, fz, k1.trans h3, h4⟩

structure Sim (oc : Codes) (gl : Globs) (s : S) : Prop where
  objs : ∀ i o, look s.m i = some o → ObR oc s (s.φ i) o
  apart : ∀ i j o o' b, i ≠ j → look s.m i = some o → look s.m j = some o' → o ≠ .gone → o' ≠ .gone → blk (s.φ i) = some b → blk (s.φ j) ≠ some b
  imlt : ∀ b j, s.Im b j → b < s.w.heap.size
  glob : ∀ g cs, (g, cs) ∈ gl → CR s.w s.Im g 0 cs
  tabs : Tabs gl s

theorem ObR.blk_lt {oc : Codes} {s : S} {p : Value} {o : Ob} (h : ObR oc s p o) (hg : o ≠ .gone) {b : Nat} (hb : blk p = some b) : b < s.w.heap.size := by
  cases o with
  | cells t cs =>
    obtain ⟨b', xs, rfl, hh, _⟩ := h
    simp [blk] at hb; subst hb
    exact (Array.getElem?_eq_some_iff.1 hh).1
  | row wr t sz n ds =>
    obtain ⟨_, xs, ho, _⟩ := h
    rcases ho.2 with ⟨rfl, _⟩ | ⟨g, cap, cur, rfl, _, hh, _⟩
    · simp [blk] at hb
    · simp [blk] at hb; subst hb
      exact (Array.getElem?_eq_some_iff.1 hh).1
  | map es =>
    obtain ⟨b', ces, cl, rfl, hh, _⟩ := h
    simp [blk] at hb; subst hb
    exact (Array.getElem?_eq_some_iff.1 hh).1
  | iter s p =>
    obtain ⟨b', rfl, hh⟩ := h
    simp [blk] at hb; subst hb
    exact (Array.getElem?_eq_some_iff.1 hh).1
  | loop e ps a c lv bu ov j =>
    obtain ⟨l, L, rfl, hh, _⟩ := h
    simp [blk] at hb; subst hb
    exact (Array.getElem?_eq_some_iff.1 hh).1
  | gone => exact absurd rfl hg

theorem MapR.ext0 {K : Id → Prop} {s s' : S} (h : Ext0 K s s') : ∀ (es : List (D × V)) (q : List MapEntry), (∀ i ∈ idsM es, K i) → MapR s es q → MapR s' es q
  | [], _, _, hm => hm
  | (k, v) :: r, _, hk, hm => by
    obtain ⟨e, q, hq, h1, h2, h3, h4⟩ := hm
    exact ⟨e, q, hq, h1, DR.ext h.im h.keep k _ h2, VR.ext0 h v _ (fun i hi => hk i (by simp [idsM, hi])) h3, MapR.ext0 h r q (fun i hi => hk i (by simp [idsM, hi])) h4⟩
theorem MapR.ext {s s' : S} (h : Ext (fun _ => True) s s') (es : List (D × V)) (q : List MapEntry) (hm : MapR s es q) : MapR s' es q := MapR.ext0 h.to0 es q (fun _ _ => trivial) hm

theorem EnvR.ext0 {K : Id → Prop} {s s' : S} (h : Ext0 K s s') {e : Env} {tmps : Array Value} (hk : ∀ t, ∀ i ∈ ids (get e t), K i) (he : EnvR s e tmps) : EnvR s' e tmps :=
  fun t => VR.ext0 h _ _ (hk t) (he t)
theorem EnvR.ext {K : Id → Prop} {s s' : S} (h : Ext K s s') {e : Env} {tmps : Array Value} (hk : ∀ t, ∀ i ∈ ids (get e t), K i) (he : EnvR s e tmps) : EnvR s' e tmps :=
  fun t => VR.ext h _ _ (hk t) (he t)

theorem ids_get : ∀ (e : Env) (t : Nat) (i : Id), i ∈ ids (get e t) → i ∈ idsE e
  | [], t, i, h => by simp [get, ids] at h
  | (u, v) :: r, t, i, h => by
    simp only [get] at h
    split at h
    · simp [idsE, h]
    · simp [idsE, ids_get r t i h]

/-- An object that a step has left alone. -/
theorem ObR.ext0 {oc : Codes} {K : Id → Prop} {s s' : S} (h : Ext0 K s s') {p : Value} {o : Ob} (hk : ∀ i ∈ idsO o, K i) (hb : ∀ b, blk p = some b → s'.w.heap[b]? = s.w.heap[b]? ∧ ∀ j, s'.Im b j → s.Im b j)
    (ho : ObR oc s p o) : ObR oc s' p o := by
  cases o with
  | cells t cs =>
    obtain ⟨b, xs, rfl, hh, hv, hi⟩ := ho
    obtain ⟨h1, h2⟩ := hb b rfl
    exact ⟨b, xs, rfl, h1.trans hh, VRs.ext0 h cs _ hk hv, fun j hj => hi j (h2 j hj)⟩
  | row wr t sz n ds =>
    obtain ⟨hz, xs, hown, hd, hi⟩ := ho
    refine ⟨hz, xs, ?_, DRs.ext h.im h.keep ds xs hd, fun b hbb j => ?_⟩
    · refine ⟨hown.1, ?_⟩
      rcases hown.2 with hn | ⟨g, cap, cur, rfl, h0, hh, rest⟩
      · exact .inl hn
      · exact .inr ⟨g, cap, cur, rfl, h0, (hb g rfl).1.trans hh, rest⟩
    · obtain ⟨h1, h2⟩ := hb b (blk_own _ _ hbb)
      exact ⟨fun hj => (hi b hbb j).1 (h2 j hj), fun hj => h.im _ _ ((hi b hbb j).2 hj)⟩
  | map es =>
    obtain ⟨b, ces, cl, rfl, hh, hm⟩ := ho
    exact ⟨b, ces, cl, rfl, (hb b rfl).1.trans hh, MapR.ext0 h es _ hk hm⟩
  | iter str pos =>
    obtain ⟨b, rfl, hh⟩ := ho
    exact ⟨b, rfl, (hb b rfl).1.trans hh⟩
  | loop e ps a c lv bu ov j =>
    obtain ⟨l, L, rfl, hh, h1, h2, h3, h4⟩ := ho
    exact ⟨l, L, rfl, (hb l rfl).1.trans hh, h1, h2, EnvR.ext0 h (fun t i hi => hk i (ids_get e t i hi)) h3, h4⟩
  | gone => trivial
theorem ObR.ext {oc : Codes} {s s' : S} (h : Ext (fun _ => True) s s') {p : Value} {o : Ob} (hb : ∀ b, blk p = some b → s'.w.heap[b]? = s.w.heap[b]? ∧ ∀ j, s'.Im b j → s.Im b j)
    (ho : ObR oc s p o) : ObR oc s' p o := ObR.ext0 h.to0 (fun _ _ => trivial) hb ho

/-- WHAT A STEP DOES TO AT MOST ONE OBJECT: object 'i' (new or old) becomes 'o'', lying in 'p''; nothing else that lives is touched. -/
theorem Sim.change {oc : Codes} {gl : Globs} {s : S} (hs : Sim oc gl s) (i : Id) (o' : Ob) (p' : Value) (w' : World) (Im' : Nat → Nat → Prop)
    (hos : w'.os = s.w.os) (htape : w'.tape = s.w.tape) (hout : w'.output = s.w.output) (hsize : s.w.heap.size ≤ w'.heap.size)
    (hheap : ∀ b, b < s.w.heap.size → ((∃ o, look s.m i = some o ∧ o ≠ .gone) → blk (s.φ i) ≠ some b) → w'.heap[b]? = s.w.heap[b]?)
    (him : ∀ b j, s.Im b j → Im' b j) (hkeep : ∀ b j, s.Im b j → w'.cell? ⟨b, j, none⟩ = s.w.cell? ⟨b, j, none⟩)
    (hnew : ∀ b j, Im' b j → s.Im b j ∨ blk p' = some b) (hlt : ∀ b j, Im' b j → b < w'.heap.size)
    (hp : ∀ b, blk p' = some b → s.w.heap.size ≤ b ∨ (∃ o, look s.m i = some o ∧ o ≠ .gone) ∧ blk (s.φ i) = some b)
    (ht : ∀ o, look s.m i = some o → Turned o o' (s.φ i) p')
    (ho : Ext (fun _ => True) s ⟨fun k => if i = k then p' else s.φ k, upd s.m i o', w', Im'⟩ → ObR oc ⟨fun k => if i = k then p' else s.φ k, upd s.m i o', w', Im'⟩ p' o') :
    Sim oc gl ⟨fun k => if i = k then p' else s.φ k, upd s.m i o', w', Im'⟩ ∧ Ext (fun _ => True) s ⟨fun k => if i = k then p' else s.φ k, upd s.m i o', w', Im'⟩ := by
  have hE : Ext (fun _ => True) s ⟨fun k => if i = k then p' else s.φ k, upd s.m i o', w', Im'⟩ := by
    refine ⟨hos, htape, hout, hsize, fun b hb hf => ⟨?_, ?_⟩, fun b j hi => ?_, him, hkeep, fun k o _ hk => ?_⟩
    · exact hheap b hb fun ⟨o, h1, h2⟩ => hf i o h1 h2
    · intro k o hk hg
      simp only [look_upd] at hk
      split at hk
      · rename_i e; subst e
        simp only [if_true]
        intro hb'
        rcases hp b hb' with h1 | ⟨⟨o, h1, h2⟩, h3⟩
        · omega
        · exact hf i o h1 h2 h3
      · rename_i e
        simp only [e, if_false]
        exact hf k o hk hg
    · rcases hnew b j hi with h1 | h1
      · exact .inl h1
      · rcases hp b h1 with h2 | ⟨⟨o, h2, h3⟩, h4⟩
        · exact .inr (.inl h2)
        · exact .inr (.inr fun hf => hf i o h2 h3 h4)
    · simp only [look_upd]
      by_cases e : i = k
      · subst e
        simp only [if_true]
        exact ⟨o', rfl, ht o hk⟩
      · simp only [e, if_false]
        exact ⟨o, hk, Turned.refl _ _⟩
  refine ⟨⟨fun k o hk => ?_, fun a b x y c hab ha hb hx hy hc => ?_, hlt, fun g cs hg => CR.ext him hkeep g 0 cs (hs.glob g cs hg), hs.tabs.ext hE⟩, hE⟩
  · simp only [look_upd] at hk
    by_cases e : i = k
    · subst e
      simp only [if_true] at hk ⊢
      obtain rfl := Option.some.inj hk
      exact ho hE
    · simp only [e, if_false] at hk ⊢
      by_cases hg : o = .gone
      · subst hg; trivial
      refine ObR.ext hE (fun b hb => ?_) (hs.objs k o hk)
      have hbl := (hs.objs k o hk).blk_lt hg hb
      have hne : (∃ o, look s.m i = some o ∧ o ≠ .gone) → blk (s.φ i) ≠ some b := fun ⟨x, h1, h2⟩ h3 => hs.apart i k x o b e h1 hk h2 hg h3 hb
      refine ⟨hheap b hbl hne, fun j hj => ?_⟩
      rcases hnew b j hj with h1 | h1
      · exact h1
      · rcases hp b h1 with h2 | ⟨h2, h3⟩
        · omega
        · exact absurd h3 (hne h2)
  · simp only [look_upd] at ha hb
    by_cases e : i = a
    · subst e
      have e' : i ≠ b := hab
      simp only [e', if_false] at hb
      simp only [if_true] at ha hc
      simp only [e', if_false]
      intro h
      rcases hp c hc with h2 | ⟨⟨o, h2, h3⟩, h4⟩
      · exact absurd ((hs.objs b y hb).blk_lt hy h) (by omega)
      · exact hs.apart i b o y c hab h2 hb h3 hy h4 h
    · simp only [e, if_false] at ha hc
      by_cases e' : i = b
      · subst e'
        simp only [if_true] at hb ⊢
        intro h
        rcases hp c h with h2 | ⟨⟨o, h2, h3⟩, h4⟩
        · exact absurd ((hs.objs a x ha).blk_lt hx hc) (by omega)
        · exact hs.apart a i x o c hab ha h2 hx h3 hc h4
      · simp only [e', if_false] at hb ⊢
        exact hs.apart a b x y c hab ha hb hx hy hc

/-- WHAT A STEP DOES THAT TOUCHES NOTHING THAT LIVES: draws, new blocks that nobody sees; what is sealed there may become known as such. -/
theorem Sim.calm {oc : Codes} {gl : Globs} {s : S} (hs : Sim oc gl s) (w' : World) (Im' : Nat → Nat → Prop)
    (hos : w'.os = s.w.os) (htape : w'.tape = s.w.tape) (hout : w'.output = s.w.output) (hsize : s.w.heap.size ≤ w'.heap.size)
    (hheap : ∀ b, b < s.w.heap.size → w'.heap[b]? = s.w.heap[b]?) (him : ∀ b j, s.Im b j → Im' b j) (hnew : ∀ b j, Im' b j → s.Im b j ∨ s.w.heap.size ≤ b) (hlt : ∀ b j, Im' b j → b < w'.heap.size) :
    Sim oc gl ⟨s.φ, s.m, w', Im'⟩ ∧ Ext (fun _ => True) s ⟨s.φ, s.m, w', Im'⟩ := by
  have hkeep : ∀ b j, s.Im b j → w'.cell? ⟨b, j, none⟩ = s.w.cell? ⟨b, j, none⟩ := fun b j hi => World.cell?_of_block (hheap b (hs.imlt b j hi))
  have hE : Ext (fun _ => True) s ⟨s.φ, s.m, w', Im'⟩ :=
    ⟨hos, htape, hout, hsize, fun b hb hf => ⟨hheap b hb, hf⟩, fun b j hi => (hnew b j hi).imp id .inl, him, hkeep, fun k o _ hk => ⟨o, hk, Turned.refl _ _⟩⟩
  refine ⟨⟨fun k o hk => ?_, hs.apart, hlt, fun g cs hg => CR.ext him hkeep g 0 cs (hs.glob g cs hg), hs.tabs.ext hE⟩, hE⟩
  by_cases hg : o = .gone
  · subst hg; trivial
  refine ObR.ext hE (fun b hb => ?_) (hs.objs k o hk)
  have hbl := (hs.objs k o hk).blk_lt hg hb
  refine ⟨hheap b hbl, fun j hj => ?_⟩
  rcases hnew b j hj with h1 | h1
  · exact h1
  · omega

end Go.Evl

