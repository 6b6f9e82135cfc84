
/-
  The laws' parameters, as data.
-/
import Derived.Test.YtcephlgejkngiaaGreatDoorRead
import Derived.Test.YtcephlgejkngiaaGreatDoorSpOne
namespace Go.Proofs.YtcephlgejkngiaaGreatDoor.Co
open Go Go.Evl
set_option maxRecDepth 100000
def i64 (n : Int) : Prop := -9223372036854775808 ≤ n ∧ n ≤ 9223372036854775807
theorem wf_i64 {n : Int} (h : (Lit.int .i64 n).wf = true) : i64 n := by
  simp only [Lit.wf, Bool.and_eq_true, decide_eq_true_eq] at h
  exact h
section
variable {P : Program} {n : Nat} {t : Nat} {ds : List D} {x : D}
theorem fit_i {k : IntKind} (ht : P.underlying t = some (.int k)) (h : fit P (n + 1) t ds) : ∃ i, ds = [.int k i] ∧ (Lit.int k i).wf = true := by
  simp only [fit, ht] at h; exact h
theorem fit_b (ht : P.underlying t = some .bool) (h : fit P (n + 1) t ds) : ∃ b, ds = [.bool b] := by
  simp only [fit, ht] at h; exact h
theorem fit_s (ht : P.underlying t = some .string) (h : fit P (n + 1) t ds) : ∃ s, ds = [.str s] ∧ s.length ≤ maxLen := by
  simp only [fit, ht] at h; exact h
theorem fit_l {e : Nat} (ht : P.underlying t = some (.slice e)) (h : fit P (n + 1) t ds) : ∃ m cs, ds = [.list m cs] ∧ m ≤ maxLen ∧ fitAll (fit P n) (List.replicate m e) cs := by
  simp only [fit, ht] at h; exact h
theorem fit_st {fs : Array Field} (ht : P.underlying t = some (.struct fs)) (h : fit P (n + 1) t ds) : fitAll (fit P n) (fs.toList.map (·.type)) ds := by
  simp only [fit, ht] at h; exact h
theorem fit_ar {m e : Nat} (ht : P.underlying t = some (.array m e)) (h : fit P (n + 1) t ds) : fitAll (fit P n) (List.replicate m e) ds := by
  simp only [fit, ht] at h; exact h
theorem arg_i {k : IntKind} (ht : P.underlying t = some (.int k)) (h : fitArg P t x) : ∃ i, x = .int k i ∧ (Lit.int k i).wf = true := by
  simp only [fitArg, ht] at h
  obtain ⟨i, e, hw⟩ := fit_i (n := 7) ht h
  exact ⟨i, by simpa using e, hw⟩
theorem arg_s (ht : P.underlying t = some .string) (h : fitArg P t x) : ∃ s, x = .str s ∧ s.length ≤ maxLen := by
  simp only [fitArg, ht] at h
  obtain ⟨i, e, hw⟩ := fit_s (n := 7) ht h
  exact ⟨i, by simpa using e, hw⟩
theorem arg_l {e : Nat} (ht : P.underlying t = some (.slice e)) (h : fitArg P t x) : ∃ m cs, x = .list m cs ∧ m ≤ maxLen ∧ fitAll (fit P 7) (List.replicate m e) cs := by
  simp only [fitArg, ht] at h
  obtain ⟨m, cs, e, h1, h2⟩ := fit_l (n := 7) ht h
  exact ⟨m, cs, by simpa using e, h1, h2⟩
theorem arg_st {fs : Array Field} (ht : P.underlying t = some (.struct fs)) (h : fitArg P t x) : ∃ ds, x = .agg ds ∧ fitAll (fit P 7) (fs.toList.map (·.type)) ds := by
  simp only [fitArg, ht] at h
  obtain ⟨ds, rfl, h⟩ := h
  exact ⟨ds, rfl, fit_st ht h⟩
theorem arg_ar {m e : Nat} (ht : P.underlying t = some (.array m e)) (h : fitArg P t x) : ∃ ds, x = .agg ds ∧ fitAll (fit P 7) (List.replicate m e) ds := by
  simp only [fitArg, ht] at h
  obtain ⟨ds, rfl, h⟩ := h
  exact ⟨ds, rfl, fit_ar ht h⟩
end
theorem fit_int {k : Nat} {ds : List D} (h : fit Tryz.prog (k + 1) 3 ds) : ∃ n, ds = [DI n] ∧ i64 n := by
  obtain ⟨n, rfl, hw⟩ := fit_i Tryz.underlying3 h
  exact ⟨n, rfl, wf_i64 hw⟩
theorem arg_int {x : D} (h : fitArg Tryz.prog 3 x) : ∃ n, x = DI n ∧ i64 n := by
  obtain ⟨n, rfl, hw⟩ := arg_i Tryz.underlying3 h
  exact ⟨n, rfl, wf_i64 hw⟩
theorem fit_ints {k : Nat} : ∀ (m : Nat) {ds : List D}, fitAll (fit Tryz.prog (k + 1)) (List.replicate m 3) ds → ∃ l : List Int, ds = l.map DI ∧ l.length = m ∧ ∀ n ∈ l, i64 n
  | 0, ds, h => ⟨[], h, rfl, by simp⟩
  | m + 1, ds, h => by
    obtain ⟨a, b, rfl, h1, h2⟩ := h
    obtain ⟨n, rfl, hn⟩ := fit_int h1
    obtain ⟨l, rfl, h3, h4⟩ := fit_ints m h2
    exact ⟨n :: l, rfl, by simp [h3], by simpa using ⟨hn, h4⟩⟩
theorem arg_Per {x : D} (h : fitArg Tryz.prog 26 x) : ∃ f t d, x = .agg [DI f, DI t, DI d] ∧ i64 f ∧ i64 t ∧ i64 d := by
  obtain ⟨ds, rfl, _, _, rfl, h1, _, _, rfl, h2, _, _, rfl, h3, rfl⟩ := arg_st Tryz.underlying26 h
  obtain ⟨f, rfl, hf⟩ := fit_int h1
  obtain ⟨t, rfl, ht⟩ := fit_int h2
  obtain ⟨d, rfl, hd⟩ := fit_int h3
  exact ⟨f, t, d, rfl, hf, ht, hd⟩
theorem args1 {P : Program} {t : Nat} {xs : List D} (h : fitArgs P [t] xs) : ∃ x, xs = [x] ∧ fitArg P t x := by
  obtain ⟨x, _, rfl, h1, rfl⟩ := h
  exact ⟨x, rfl, h1⟩
theorem args2 {P : Program} {t u : Nat} {xs : List D} (h : fitArgs P [t, u] xs) : ∃ x y, xs = [x, y] ∧ fitArg P t x ∧ fitArg P u y := by
  obtain ⟨x, _, rfl, h1, y, _, rfl, h2, rfl⟩ := h
  exact ⟨x, y, rfl, h1, h2⟩
theorem args3 {P : Program} {t u v : Nat} {xs : List D} (h : fitArgs P [t, u, v] xs) : ∃ x y z, xs = [x, y, z] ∧ fitArg P t x ∧ fitArg P u y ∧ fitArg P v z := by
  obtain ⟨x, _, rfl, h1, y, _, rfl, h2, z, _, rfl, h3, rfl⟩ := h
  exact ⟨x, y, z, rfl, h1, h2, h3⟩
theorem args4 {P : Program} {t u v w : Nat} {xs : List D} (h : fitArgs P [t, u, v, w] xs) : ∃ x y z a, xs = [x, y, z, a] ∧ fitArg P t x ∧ fitArg P u y ∧ fitArg P v z ∧ fitArg P w a := by
  obtain ⟨x, _, rfl, h1, y, _, rfl, h2, z, _, rfl, h3, a, _, rfl, h4, rfl⟩ := h
  exact ⟨x, y, z, a, rfl, h1, h2, h3, h4⟩
end Go.Proofs.YtcephlgejkngiaaGreatDoor.Co
