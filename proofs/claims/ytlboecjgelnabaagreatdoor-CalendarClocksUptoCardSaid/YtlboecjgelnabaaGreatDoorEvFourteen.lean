
/-
  A drawing region, walked in whatever order.
-/
import Derived.Test.YtlboecjgelnabaaGreatDoorEvThirteen
namespace Go.Evl
open Go.RowKit

section
variable {P : Program} {oc : Codes} {gl : Globs}

theorem okCOs_at {nt : Nat} {ops : Array Oper} : ∀ (cos : List CO) (os : List Oper), okCOs P gl nt ops cos os = true → cos.length = os.length ∧ ∀ (i : Nat) (c : CO) (o : Oper), cos[i]? = some c → os[i]? = some o → okCO P gl nt ops c o = true
  | [], [], _ => ⟨rfl, fun i c o h => by simp at h⟩
  | [], _ :: _, h => by simp [okCOs] at h
  | _ :: _, [], h => by simp [okCOs] at h
  | c :: r, o :: q, h => by
    simp only [okCOs, Bool.and_eq_true] at h
    obtain ⟨h1, h2⟩ := okCOs_at r q h.2
    refine ⟨by simp [h1], fun i c' o' hc ho => ?_⟩
    cases i with
    | zero => simp at hc ho; subst hc; subst ho; exact h.1
    | succ i => exact h2 i c' o' (by simpa using hc) (by simpa using ho)

structure DrawOk (ops : Array Oper) (cos : List CO) : Prop where
  len : cos.length = ops.size
  edge : ∀ (i : Nat) (o : Oper) (e : Edge), ops[i]? = some o → e ∈ o.after → Region.binds .any e = true → e.on < i
  uniq : ∀ (i j : Nat) (c d : CO) (t : Nat), cos[i]? = some c → cos[j]? = some d → c.dst = some t → d.dst = some t → i = j
  read : ∀ (i j : Nat) (c d : CO) (t : Nat), cos[i]? = some c → cos[j]? = some d → t ∈ reads1 c → d.dst = some t → (j < i ∧ Needs ops i j) ∨ i = j ∨ (i < j ∧ Needs ops j i)
  loud : ∀ (i j : Nat) (c d : CO), cos[i]? = some c → cos[j]? = some d → j < i → cls c.op ≠ 0 → cls d.op ≠ 0 → ¬ (cls d.op = 1 ∧ cls c.op ≠ 2) → Needs ops i j

theorem drawOk_of {nt : Nat} {ops : Array Oper} {cos : List CO} (h1 : okCOs P gl nt ops cos ops.toList = true) (h2 : okDraw ops cos = true) : DrawOk ops cos := by
  have hlen : cos.length = ops.size := by simpa using (okCOs_at cos ops.toList h1).1
  have hm : ∀ i a, ((masks ops.toList []).getD i 0).testBit a = true → Needs ops i a := masks_ok ops.toList [] (fun i a h => by simp at h) (fun k _ => by simp)
  simp only [okDraw, List.all_eq_true, List.mem_range] at h2
  have key : ∀ (i : Nat) (c : CO), cos[i]? = some c → ∃ o, ops[i]? = some o ∧ (∀ e ∈ o.after, Region.binds .any e = true → e.on < i) ∧ ∀ (j : Nat) (d : CO), cos[j]? = some d →
      (i = j ∨ d.dst = none ∨ d.dst ≠ c.dst) ∧ (∀ t, d.dst = some t → t ∈ reads1 c → (j < i ∧ Needs ops i j) ∨ i = j ∨ (i < j ∧ Needs ops j i)) ∧ (j < i → cls c.op ≠ 0 → cls d.op ≠ 0 → ¬ (cls d.op = 1 ∧ cls c.op ≠ 2) → Needs ops i j) := by
    intro i c hc
    have hi : i < cos.length := (List.getElem?_eq_some_iff.1 hc).1
    have h := h2 i hi
    rw [hc] at h
    obtain ⟨o, ho⟩ : ∃ o, ops[i]? = some o := ⟨_, Array.getElem?_eq_getElem (by omega)⟩
    rw [ho] at h
    simp only [Bool.and_eq_true, List.all_eq_true, List.mem_range] at h
    refine ⟨o, ho, fun e he hb => ?_, fun j d hd => ?_⟩
    · have := h.1 e (by simpa using he)
      simpa [hb] using this
    · have h3 := h.2 j (List.getElem?_eq_some_iff.1 hd).1
      rw [hd] at h3
      simp only [Bool.and_eq_true] at h3
      obtain ⟨⟨q1, q2⟩, q3⟩ := h3
      refine ⟨?_, fun t ht hr => ?_, fun hji c1 c2 c3 => ?_⟩
      · simp only [Bool.or_eq_true, decide_eq_true_eq, Option.isNone_iff_eq_none, bne_iff_ne] at q1
        rcases q1 with (q1 | q1) | q1
        · exact .inl q1
        · exact .inr (.inl q1)
        · exact .inr (.inr q1)
      · rw [ht] at q2
        simp only [Bool.or_eq_true, Bool.not_eq_true', List.elem_eq_mem, decide_eq_false_iff_not, Bool.and_eq_true, decide_eq_true_eq] at q2
        rcases q2 with (q2 | q2) | q2 | q2
        · exact absurd hr q2
        · exact .inl ⟨q2.1, hm i j q2.2⟩
        · exact .inr (.inl q2)
        · exact .inr (.inr ⟨q2.1, hm j i q2.2⟩)
      · simp only [Bool.or_eq_true, Bool.not_eq_true', decide_eq_false_iff_not, Bool.and_eq_true, beq_iff_eq, bne_iff_ne] at q3
        rcases q3 with (((q3 | q3) | q3) | q3) | q3
        · exact absurd hji q3
        · exact absurd q3 c1
        · exact absurd q3 c2
        · exact absurd q3 c3
        · exact hm i j q3
  refine ⟨hlen, fun i o e ho he hb => ?_, fun i j c d t hc hd h3 h4 => ?_, fun i j c d t hc hd h3 h4 => ?_, fun i j c d hc hd hji c1 c2 c3 => ?_⟩
  · have hi : i < ops.size := (Array.getElem?_eq_some_iff.1 ho).1
    obtain ⟨c, hc⟩ : ∃ c, cos[i]? = some c := ⟨_, List.getElem?_eq_getElem (by omega)⟩
    obtain ⟨o', ho', hedge, _⟩ := key i c hc
    rw [ho] at ho'
    obtain rfl := Option.some.inj ho'
    exact hedge e he hb
  · obtain ⟨_, _, _, hk⟩ := key i c hc
    rcases (hk j d hd).1 with h | h | h
    · exact h
    · rw [h] at h4; cases h4
    · exact absurd (h4.trans h3.symm) h
  · obtain ⟨_, _, _, hk⟩ := key i c hc
    exact (hk j d hd).2.1 t h4 h3
  · obtain ⟨_, _, _, hk⟩ := key i c hc
    exact (hk j d hd).2.2 hji c1 c2 c3

/-- How matters stand when some of a region's operations have been run. -/
structure DInv (oc : Codes) (gl : Globs) (ops : Array Oper) (cos : List CO) (M : Nat → Mem) (W : Nat → V) (e : Env) (s0 : S) (A0 : Act) (listed : Array Bool) (A : Act) (s : S) : Prop where
  size : listed.size = cos.length
  closed : Closed ops (fun i => listed.getD i false = true)
  sim : Sim oc gl s
  ext : Ext (fun _ => True) s0 s
  mem : ∃ k, k ≤ cos.length ∧ s.m = M k ∧ (∀ (i : Nat) (c : CO), i < k → cos[i]? = some c → 2 ≤ cls c.op → listed.getD i false = true) ∧ (∀ (i : Nat) (c : CO), cos[i]? = some c → listed.getD i false = true → 2 ≤ cls c.op → i < k)
  env1 : ∀ (i : Nat) (c : CO) (t : Nat), cos[i]? = some c → listed.getD i false = true → c.dst = some t → VR s (W i) (A.tmps.getD t undef)
  env2 : ∀ t, (∀ (i : Nat) (c : CO), cos[i]? = some c → listed.getD i false = true → c.dst ≠ some t) → VR s (get e t) (A.tmps.getD t undef)
  tmps : A.tmps.size = A0.tmps.size ∧ A.defers = A0.defers

theorem getD_size {listed : Array Bool} {i : Nat} (h : listed.getD i false = true) : i < listed.size := by
  rcases Nat.lt_or_ge i listed.size with h' | h'
  · exact h'
  · rw [Array.getD_eq_getD_getElem?, Array.getElem?_eq_none h'] at h; cases h

theorem getD_set {listed : Array Bool} {i j : Nat} (h : i < listed.size) : (listed.setIfInBounds i true).getD j false = (decide (i = j) || listed.getD j false) := by
  rw [Array.getD_eq_getD_getElem?, Array.getElem?_setIfInBounds, Array.getD_eq_getD_getElem?]
  by_cases e : i = j
  · subst e; simp [h]
  · simp [e]

theorem draw_walk {F : Oracle} (hF : Good P oc gl F) (r : Option Nat) (cx : Cx) {nt : Nat} {ops : Array Oper} {cos : List CO} (hok : okCOs P gl nt ops cos ops.toList = true) (hd : DrawOk ops cos)
    {E : Nat → Env} {M : Nat → Mem} {W : Nat → V} (hT : Trace F cx cos E M W) {s0 : S} {A0 : Act} (hnt : nt ≤ A0.tmps.size) {Q : Exit → Act → World → Prop}
    (hQ : ∀ s' A', Sim oc gl s' → Ext (fun _ => True) s0 s' → s'.m = M cos.length → EnvR s' (E cos.length) A'.tmps → A'.tmps.size = A0.tmps.size → A'.defers = A0.defers → Q .normal A' s'.w) :
    ∀ (fuel : Nat) (listed : Array Bool) (A : Act) (s : S), listed.toList.countP (fun b => !b) ≤ fuel → DInv oc gl ops cos M W (E 0) s0 A0 listed A s → wpAnyIn (fen r) 0 P .any ops Q fuel listed A s.w := by
  -- when nothing is ready, all has been run
  have alldone : ∀ (listed : Array Bool) (A : Act) (s : S), DInv oc gl ops cos M W (E 0) s0 A0 listed A s → Region.ready .any ops listed = [] → Q .normal A s.w := by
    intro listed A s hI hr
    have all : ∀ i, i < cos.length → listed.getD i false = true := by
      intro i
      induction i using Nat.strongRecOn with
      | ind i ih =>
        intro hi
        cases hl : listed.getD i false with
        | true => rfl
        | false =>
          obtain ⟨o, ho⟩ : ∃ o, ops[i]? = some o := ⟨_, Array.getElem?_eq_getElem (by rw [← hd.len]; exact hi)⟩
          have : i ∈ Region.ready .any ops listed := by
            refine mem_ready.2 ⟨?_, o, ho, fun e he hb => ?_⟩
            · have hlt : i < listed.size := by rw [hI.size]; exact hi
              rw [Array.getD_eq_getD_getElem?] at hl ⊢
              simp [hlt] at hl ⊢; exact hl
            · have hlt := hd.edge i o e ho he hb
              exact ih e.on hlt (by omega)
          rw [hr] at this
          cases this
    obtain ⟨k, hk, hm, h1, h2⟩ := hI.mem
    refine hQ s A hI.sim hI.ext ?_ (fun t => ?_) hI.tmps.1 hI.tmps.2
    · rw [hm, hT.mem k cos.length hk (Nat.le_refl _) fun j c hj hjn hc => ?_]
      rcases Nat.lt_or_ge (cls c.op) 2 with hcl | hcl
      · omega
      · have := h2 j c hc (all j hjn) hcl
        omega
    · by_cases hex : ∃ (i : Nat) (c : CO), cos[i]? = some c ∧ c.dst = some t
      · obtain ⟨i, c, hc, hct⟩ := hex
        have hi : i < cos.length := (List.getElem?_eq_some_iff.1 hc).1
        rw [hT.wrote hc hct (fun k d hk hkt => hd.uniq k i d c t hk hc hkt hct) hi (Nat.le_refl _)]
        exact hI.env1 i c t hc (all i hi) hct
      · rw [hT.same t 0 cos.length (Nat.zero_le _) (Nat.le_refl _) fun k c _ _ hc he => hex ⟨k, c, hc, he⟩]
        exact hI.env2 t fun i c hc _ he => hex ⟨i, c, hc, he⟩
  intro fuel
  induction fuel with
  | zero =>
    intro listed A s hcount hI
    have hr : Region.ready .any ops listed = [] := by
      cases hr : Region.ready .any ops listed with
      | nil => rfl
      | cons i q =>
        have hi : i ∈ Region.ready .any ops listed := by rw [hr]; simp
        have h0 := (mem_ready.1 hi).1
        have hlt : i < listed.size := by
          rcases Nat.lt_or_ge i listed.size with h' | h'
          · exact h'
          · rw [Array.getD_eq_getD_getElem?, Array.getElem?_eq_none h'] at h0; cases h0
        have hf : listed[i] = false := by rw [Array.getD_eq_getD_getElem?] at h0; simpa [hlt] using h0
        have : 0 < listed.toList.countP (fun b => !b) := List.countP_pos_iff.2 ⟨listed[i], by simp, by simp [hf]⟩
        omega
    exact ⟨hr, alldone listed A s hI hr⟩
  | succ fuel ih =>
    intro listed A s hcount hI
    refine ⟨fun hr => alldone listed A s hI hr, fun i hi => ?_⟩
    obtain ⟨h0, o, ho, hedges⟩ := mem_ready.1 hi
    have hio : i < ops.size := (Array.getElem?_eq_some_iff.1 ho).1
    have hin : i < cos.length := by rw [hd.len]; exact hio
    have hlt : i < listed.size := by rw [hI.size]; exact hin
    have hf : listed[i] = false := by rw [Array.getD_eq_getD_getElem?] at h0; simpa [hlt] using h0
    have hnl : listed.getD i false = false := by rw [Array.getD_eq_getD_getElem?]; simp [hlt, hf]
    obtain ⟨c, hc⟩ : ∃ c, cos[i]? = some c := ⟨_, List.getElem?_eq_getElem hin⟩
    have hco := (okCOs_at cos ops.toList hok).2 i c o hc (by simpa using ho)
    obtain ⟨hdst, hdlt⟩ := okCO_dst hco
    -- what stands before it has been run
    have before : ∀ j, j ≠ i → Needs ops i j → listed.getD j false = true := by
      intro j hj hn
      have := hn (fun k => k = i ∨ listed.getD k false = true) (fun k o' e hk hp he hb => by
        rcases hp with rfl | hp
        · rw [ho] at hk
          obtain rfl := Option.some.inj hk
          exact .inr (hedges e he hb)
        · exact .inr (hI.closed k o' e hk hp he hb)) (.inl rfl)
      exact this.resolve_left hj
    have behind : ∀ j, Needs ops j i → listed.getD j false = true → False := by
      intro j hn hj
      have := hn (fun k => listed.getD k false = true) hI.closed hj
      rw [hnl] at this; cases this
    obtain ⟨k, hk, hm, hk1, hk2⟩ := hI.mem
    -- what it reads
    let e1 : Env := (E i).filter fun p => (reads1 c).elem p.1
    have hread : ∀ t ∈ reads1 c, get e1 t = get (E i) t := by
      intro t ht
      have : ∀ (l : Env), get (l.filter fun p => (reads1 c).elem p.1) t = get l t := by
        intro l
        induction l with
        | nil => rfl
        | cons p l ihl =>
          obtain ⟨u, v⟩ := p
          rw [List.filter_cons]
          split
          · simp only [get]; rw [ihl]
          · rename_i hu
            have hne : u ≠ t := fun e => hu (by subst e; simpa using ht)
            simp only [get, hne, if_false]; exact ihl
      exact this _
    have hnread : ∀ t, t ∉ reads1 c → get e1 t = .undef := by
      intro t ht
      have : ∀ (l : Env), get (l.filter fun p => (reads1 c).elem p.1) t = .undef := by
        intro l
        induction l with
        | nil => rfl
        | cons p l ihl =>
          obtain ⟨u, v⟩ := p
          rw [List.filter_cons]
          split
          · rename_i hu
            have hne : u ≠ t := fun e => ht (by subst e; simpa using hu)
            simp only [get, hne, if_false]; exact ihl
          · exact ihl
      exact this _
    have henv : EnvR s e1 A.tmps := by
      intro t
      by_cases ht : t ∈ reads1 c
      · rw [hread t ht]
        by_cases hex : ∃ (j : Nat) (d : CO), cos[j]? = some d ∧ d.dst = some t
        · obtain ⟨j, d, hj, hjt⟩ := hex
          have late : i ≤ j → listed.getD j false = false → VR s (get (E i) t) (A.tmps.getD t undef) := by
            intro hij hjl
            rw [hT.same t 0 i (Nat.zero_le _) (by omega) fun k d' _ hki hk he => by
              have := hd.uniq k j d' d t hk hj he hjt
              omega]
            refine hI.env2 t fun k d' hk hkl he => ?_
            obtain rfl := hd.uniq k j d' d t hk hj he hjt
            rw [hjl] at hkl; cases hkl
          rcases hd.read i j c d t hc hj ht hjt with ⟨hji, hn⟩ | rfl | ⟨hij, hn⟩
          · rw [hT.wrote hj hjt (fun k d' hk hkt => hd.uniq k j d' d t hk hj hkt hjt) hji (by omega)]
            exact hI.env1 j d t hj (before j (by omega) hn) hjt
          · exact late (Nat.le_refl _) hnl
          · refine late (by omega) ?_
            cases hjl : listed.getD j false with
            | false => rfl
            | true => exact (behind j hn hjl).elim
        · rw [hT.same t 0 i (Nat.zero_le _) (by omega) fun k d _ _ hk he => hex ⟨k, d, hk, he⟩]
          exact hI.env2 t fun j d hj _ he => hex ⟨j, d, hj, he⟩
      · rw [hnread t ht]; trivial
    -- its memory
    have hval := hT.val i c hc
    rw [← evOp1_congr c hread] at hval
    have nodown : cls c.op ≠ 0 → ∀ (j : Nat) (d : CO), cos[j]? = some d → 2 ≤ cls d.op → k ≤ j → j < i → False := by
      intro hc0 j d hj hdl hkj hji
      have hjl := before j (by omega) (hd.loud i j c d hc hj hji hc0 (by omega) (fun h => by omega))
      have := hk2 j d hj hjl hdl
      omega
    have noup : cls c.op ≠ 0 → ∀ (j : Nat) (d : CO), cos[j]? = some d → 2 ≤ cls d.op → i ≤ j → j < k → cls c.op = 1 ∧ cls d.op ≠ 2 := by
      intro hc0 j d hj hdl hij hjk
      have hjl := hk1 j d hjk hj hdl
      rcases Nat.lt_or_ge i j with h | h
      · refine Classical.byContradiction fun hcon => ?_
        exact behind j (hd.loud j i d c hj hc h (by omega) hc0 hcon) hjl
      · obtain rfl : i = j := by omega
        rw [hnl] at hjl; cases hjl
    have cls_le : ∀ (op : COp), cls op ≤ 3 := by
      intro op
      cases op <;> simp only [cls] <;> first | omega | skip
      · split <;> omega
      · split <;> omega
      · rename_i a b _ _; cases a <;> cases b <;> simp
    obtain ⟨m', hev, hmem'⟩ : ∃ m', evOp1 F cx e1 s.m c = some (W i, m') ∧ ∃ k', k' ≤ cos.length ∧ m' = M k' ∧ (∀ (j : Nat) (d : CO), j < k' → cos[j]? = some d → 2 ≤ cls d.op → j = i ∨ listed.getD j false = true) ∧
        (∀ (j : Nat) (d : CO), cos[j]? = some d → (j = i ∨ listed.getD j false = true) → 2 ≤ cls d.op → j < k') := by
      rcases Nat.lt_or_ge (cls c.op) 2 with hc2 | hc2
      · have hsame : evOp1 F cx e1 s.m c = some (W i, s.m) := by
          by_cases hc0 : cls c.op = 0
          · exact (cls0' hc0 hval).2 s.m
          · have hc1 : cls c.op = 1 := by omega
            rw [hm]
            rcases Nat.le_total i k with h | h
            · refine cls1_mono' (hT.sub i k h hk fun j d h1 h2 hj => ?_) hc1 hval
              rcases Nat.lt_or_ge (cls d.op) 2 with hdl | hdl
              · exact .inl (by omega)
              · have := (noup hc0 j d hj hdl h1 h2).2
                have := cls_le d.op
                exact .inr (by omega)
            · have hMi : M i = M k := hT.mem k i h (by omega) fun j d h1 h2 hj => by
                rcases Nat.lt_or_ge (cls d.op) 2 with hdl | hdl
                · omega
                · exact (nodown hc0 j d hj hdl h1 h2).elim
              have hMn := cls1' (by omega) hval
              rw [← hMi, hval, hMn]
        refine ⟨s.m, hsame, k, hk, hm, fun j d hj hjd hdl => .inr (hk1 j d hj hjd hdl), fun j d hjd hj hdl => ?_⟩
        rcases hj with rfl | hj
        · rw [hc] at hjd
          obtain rfl := Option.some.inj hjd
          omega
        · exact hk2 j d hjd hj hdl
      · have hc0 : cls c.op ≠ 0 := by omega
        have hMi : M k = M i := by
          rcases Nat.le_total i k with h | h
          · exact hT.mem i k h hk fun j d h1 h2 hj => by
              rcases Nat.lt_or_ge (cls d.op) 2 with hdl | hdl
              · omega
              · have := (noup hc0 j d hj hdl h1 h2).1
                omega
          · exact (hT.mem k i h (by omega) fun j d h1 h2 hj => by
              rcases Nat.lt_or_ge (cls d.op) 2 with hdl | hdl
              · omega
              · exact (nodown hc0 j d hj hdl h1 h2).elim).symm
        have hval' : evOp1 F cx e1 s.m c = some (W i, M (i + 1)) := by rw [hm, hMi]; exact hval
        refine ⟨M (i + 1), hval', i + 1, by omega, rfl, fun j d hj hjd hdl => ?_, fun j d hjd hj hdl => ?_⟩
        · rcases Nat.lt_or_ge j i with h | h
          · exact .inr (before j (by omega) (hd.loud i j c d hc hjd h hc0 (by omega) (fun h => by omega)))
          · exact .inl (by omega)
        · rcases hj with rfl | hj
          · omega
          · rcases Nat.lt_or_ge i j with h | h
            · exact (behind j (hd.loud j i d c hjd hc h (by omega) hc0 (fun h => by omega)) hj).elim
            · omega
    obtain ⟨k', hk', hmk', hka, hkb⟩ := hmem'
    refine sound_co hF hI.sim henv r cx (by rw [hI.tmps.1]; exact hnt) ho hco hev fun s' x q1 q2 q3 q4 => ?_
    have hsz := put_tmps A o.dst x
    refine ih (listed.setIfInBounds i true) (A.put o.dst x) s' ?_ ⟨by simpa using hI.size, fun j o' e hj hp he hb => ?_, q1, Ext.trans hI.ext q2 (fun _ _ => trivial), ⟨k', hk', q3.trans hmk', fun j d hj hjd hdl => ?_, fun j d hjd hj hdl => ?_⟩,
      fun j d t hj hl hdt => ?_, fun t hno => ?_, ⟨hsz.1.trans hI.tmps.1, hsz.2.trans hI.tmps.2⟩⟩
    · rw [Array.toList_setIfInBounds, List.countP_set (by simpa using hlt)]
      have hpos : 0 < listed.toList.countP (fun b => !b) := List.countP_pos_iff.2 ⟨listed[i], by simp, by simp [hf]⟩
      simp only [Array.getElem_toList, hf, Bool.not_false, Bool.not_true, if_true, Bool.false_eq_true, if_false]
      omega
    · simp only [getD_set hlt, Bool.or_eq_true, decide_eq_true_eq] at hp ⊢
      rcases hp with rfl | hp
      · rw [ho] at hj
        obtain rfl := Option.some.inj hj
        exact .inr (hedges e he hb)
      · exact .inr (hI.closed j o' e hj hp he hb)
    · simp only [getD_set hlt, Bool.or_eq_true, decide_eq_true_eq]
      exact (hka j d hj hjd hdl).imp Eq.symm id
    · simp only [getD_set hlt, Bool.or_eq_true, decide_eq_true_eq] at hj
      exact hkb j d hjd (hj.imp Eq.symm id) hdl
    · simp only [getD_set hlt, Bool.or_eq_true, decide_eq_true_eq] at hl
      by_cases e : i = j
      · subst e
        rw [hc] at hj
        obtain rfl := Option.some.inj hj
        have hot : o.dst = some t := hdst ▸ hdt
        rw [hot, put_get A t x (by have := hdlt t hdt; rw [hI.tmps.1]; omega) t]
        simpa using q4
      · have hl := hl.resolve_left e
        have hv := VR.ext q2 _ _ (fun _ _ => trivial) (hI.env1 j d t hj hl hdt)
        cases hod : o.dst with
        | none => exact hv
        | some u =>
          have hu : c.dst = some u := hdst.trans hod
          have hne : u ≠ t := fun e' => e (hd.uniq i j c d t hc hj (by rw [hu, e']) hdt)
          rw [put_get A u x (by have := hdlt u hu; rw [hI.tmps.1]; omega) t]
          simpa [hne] using hv
    · have hv := VR.ext q2 _ _ (fun _ _ => trivial) (hI.env2 t fun j d hj hl => hno j d hj (by simp [getD_set hlt, hl]))
      cases hod : o.dst with
      | none => exact hv
      | some u =>
        have hu : c.dst = some u := hdst.trans hod
        have hne : u ≠ t := fun e' => hno i c hc (by simp [getD_set hlt]) (by rw [hu, e'])
        rw [put_get A u x (by have := hdlt u hu; rw [hI.tmps.1]; omega) t]
        simpa [hne] using hv

/-- A region, in the text's order or in a drawn one. -/
theorem sound_reg {F : Oracle} (hF : Good P oc gl F) (hm : P.follows .mixedOrders = true) (r : Option Nat) (cx : Cx) {nt : Nat} {ops : Array Oper} {cos : List CO} (draw : Bool) (id : Nat) (hok : okCOs P gl nt ops cos ops.toList = true) (hdr : draw = true → okDraw ops cos = true)
    {e e' : Env} {m' : Mem} {s : S} {A : Act} (h : evOps F cx cos e s.m = some (e', m')) (hs : Sim oc gl s) (he : EnvR s e A.tmps) (hnt : nt ≤ A.tmps.size) {Q : Exit → Act → World → Prop}
    (hQ : ∀ s' A', Sim oc gl s' → Ext (fun _ => True) s s' → s'.m = m' → EnvR s' e' A'.tmps → A'.tmps.size = A.tmps.size → A'.defers = A.defers → Q .normal A' s'.w) :
    (Code.region id ops draw).wpIn (fen r) 0 P Q A s.w := by
  cases draw with
  | false =>
    refine wpIn_region ?_
    have := ops_seq hF r cx cos ops.toList 0 e e' m' s A (fun k _ => by simp) hok h hs he hnt hQ
    rw [List.range_eq_range']
    simpa using this
  | true =>
    have hd := drawOk_of hok (hdr rfl)
    obtain ⟨E, M, W, hT, hE, hM, hE', hM'⟩ := trace_of cos e e' s.m m' h
    refine wpIn_region_any hm ?_
    obtain ⟨k1, k2⟩ := hs.calm { s.w with drawn := s.w.drawn + 1 } s.Im rfl rfl rfl (Nat.le_refl _) (fun _ _ => rfl) (fun _ _ h => h) (fun _ _ h => .inl h) hs.imlt
    have hsz : (Array.replicate ops.size false).toList.countP (fun b => !b) ≤ ops.size := by
      refine Nat.le_trans List.countP_le_length ?_
      simp
    have nol : ∀ i, (Array.replicate ops.size false).getD i false = false := by
      intro i
      rw [Array.getD_eq_getD_getElem?]
      by_cases h : i < ops.size
      · simp [h]
      · simp [h]
    refine draw_walk (Q := Q) hF r cx hok hd hT (s0 := s) (A0 := A) hnt (fun s' A' q1 q2 q3 q4 q5 q6 => hQ s' A' q1 q2 (q3.trans hM') (hE' ▸ q4) q5 q6) ops.size _ A ⟨s.φ, s.m, { s.w with drawn := s.w.drawn + 1 }, s.Im⟩ hsz
      ⟨by simp [hd.len], fun i o e _ hp => absurd ((nol i).symm.trans hp) (by simp), k1, k2, ⟨0, Nat.zero_le _, hM.symm, fun i c h => absurd h (Nat.not_lt_zero _), fun i c _ hp => absurd ((nol i).symm.trans hp) (by simp)⟩,
        fun i c t _ hp => absurd ((nol i).symm.trans hp) (by simp), fun t _ => ?_, rfl, rfl⟩
    rw [hE]
    exact VR.ext k2 _ _ (fun _ _ => trivial) (he t)

end
end Go.Evl

