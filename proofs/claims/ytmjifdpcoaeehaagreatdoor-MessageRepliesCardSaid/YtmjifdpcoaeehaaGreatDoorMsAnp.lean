
/-
  Answers, plainly: results checked, and held against requests; the lines of an answer; what is granted.
-/
import Derived.Test.YtmjifdpcoaeehaaGreatDoorMsRqs
import Derived.Test.YtmjifdpcoaeehaaGreatDoorMsRes
import Derived.Test.YtmjifdpcoaeehaaGreatDoorPlMsm
namespace Go.Proofs.YtmjifdpcoaeehaaGreatDoor.Co
open Go Go.Evl
def nmsS (l : List Rst) : List (List UInt8) := l.map (·.nm)
theorem nmsS_succ {l : List Rst} {k : Nat} (h : k < l.length) : nmsS (l.take (k + 1)) = nmsS (l.take k) ++ [l[k].nm] := by
  unfold nmsS
  rw [List.take_add_one, List.getElem?_eq_getElem h, List.map_append]
  rfl
def rstE (seen : List (List UInt8)) (r : Rst) : Int := firstI [nmE r.nm, rng r.mi 0 (if r.gr = true then 1439 else 0), if r.nm ∈ seen then 9 else 0]
def chkRsG (seen : List (List UInt8)) : List Rst → Int
  | [] => 0
  | x :: r => if rstE seen x = 0 then chkRsG (seen ++ [x.nm]) r else rstE seen x
def chkRss (l : List Rst) : Int := if 64 < l.length then 5 else chkRsG [] l
def cbG : List Rqt → List Rst → Int
  | q :: a, r :: b => if r.nm = q.nm then cbG a b else 10
  | _, _ => 0
def chk3 (l : List Rqt) (rs : List Rst) : Int := firstI [chkRqs l, chkRss rs, if l.length = rs.length then 0 else 2]
def chkBo (l : List Rqt) (rs : List Rst) : Int := if chk3 l rs = 0 then cbG l rs else chk3 l rs
def movQ (q : Rqt) (m : Int) : Rqt := { q with mi := m }
def ansLn (q : Rqt) (r : Rst) : Lnt := if r.gr = true then (if r.mi = q.mi then ⟨[75], q⟩ else ⟨[79], movQ q r.mi⟩) else ⟨[85], q⟩
def ansL (l : List Rqt) (rs : List Rst) : List Lnt := List.zipWith ansLn l rs
def grL : List Rqt → List Rst → List Rqt
  | q :: a, r :: b => if r.gr = true then movQ q r.mi :: grL a b else grL a b
  | _, _ => []
theorem ansL_succ {l : List Rqt} {rs : List Rst} {k : Nat} (h1 : k < l.length) (h2 : k < rs.length) : ansL (l.take (k + 1)) (rs.take (k + 1)) = ansL (l.take k) (rs.take k) ++ [ansLn l[k] rs[k]] := by
  unfold ansL
  rw [List.take_add_one, List.getElem?_eq_getElem h1, List.take_add_one, List.getElem?_eq_getElem h2, List.zipWith_append (by simp; omega)]
  rfl
theorem grL_app : ∀ (a : List Rqt) (b : List Rst) (c : List Rqt) (d : List Rst), a.length = b.length → grL (a ++ c) (b ++ d) = grL a b ++ grL c d
  | [], [], _, _, _ => rfl
  | q :: a, r :: b, c, d, h => by
    have ih := grL_app a b c d (by simpa using h)
    rw [List.cons_append, List.cons_append, grL, grL, ih]
    split <;> rfl
theorem grL_succ {l : List Rqt} {rs : List Rst} {k : Nat} (h1 : k < l.length) (h2 : k < rs.length) : grL (l.take (k + 1)) (rs.take (k + 1)) = grL (l.take k) (rs.take k) ++ (if rs[k].gr = true then [movQ l[k] rs[k].mi] else []) := by
  rw [List.take_add_one, List.getElem?_eq_getElem h1, List.take_add_one, List.getElem?_eq_getElem h2, grL_app _ _ _ _ (by simp; omega)]
  simp only [Option.toList_some, grL]
theorem grL_len : ∀ (l : List Rqt) (rs : List Rst), (grL l rs).length ≤ l.length
  | [], _ => by simp [grL]
  | _ :: _, [] => by simp [grL]
  | q :: a, r :: b => by
    have ih := grL_len a b
    rw [grL]
    split <;> simp <;> omega
theorem cbG_at {l : List Rqt} {rs : List Rst} {k : Nat} (h1 : k < l.length) (h2 : k < rs.length) : cbG (l.drop k) (rs.drop k) = if rs[k].nm = l[k].nm then cbG (l.drop (k + 1)) (rs.drop (k + 1)) else 10 := by
  rw [List.drop_eq_getElem_cons h1, List.drop_eq_getElem_cons h2, cbG]
open Go Go.Evl
theorem chkRsG_zero : ∀ (l : List Rst) (seen : List (List UInt8)), chkRsG seen l = 0 → ∀ x ∈ l, 0 ≤ x.mi ∧ x.mi ≤ (if x.gr = true then 1439 else 0)
  | [], _, _ => by simp
  | x :: r, seen, h => by
    rw [chkRsG] at h
    by_cases hz : rstE seen x = 0
    · rw [if_pos hz] at h
      intro y hy
      rcases List.mem_cons.1 hy with rfl | hy
      · unfold rstE at hz
        rw [firstI_zero] at hz
        exact rng_zero.1 (hz _ (List.mem_cons_of_mem _ (List.mem_cons_self ..)))
      · exact chkRsG_zero r _ h y hy
    · rw [if_neg hz] at h
      exact absurd h hz
theorem chkRss_zero {l : List Rst} (h : chkRss l = 0) : l.length ≤ 64 ∧ ∀ x ∈ l, 0 ≤ x.mi ∧ x.mi ≤ (if x.gr = true then 1439 else 0) := by
  unfold chkRss at h
  by_cases hn : 64 < l.length
  · rw [if_pos hn] at h; cases h
  · rw [if_neg hn] at h
    exact ⟨by omega, chkRsG_zero _ _ h⟩
theorem cbG_zero : ∀ (l : List Rqt) (rs : List Rst), l.length = rs.length → cbG l rs = 0 → ∀ (k : Nat) (h1 : k < l.length) (h2 : k < rs.length), rs[k].nm = l[k].nm
  | [], _, _, _ => by simp
  | _ :: _, [], h, _ => by simp at h
  | q :: a, r :: b, h, hc => by
    rw [cbG] at hc
    by_cases e : r.nm = q.nm
    · rw [if_pos e] at hc
      intro k h1 h2
      cases k with
      | zero => exact e
      | succ k => exact cbG_zero a b (by simpa using h) hc k (by simpa using h1) (by simpa using h2)
    · rw [if_neg e] at hc
      cases hc
structure BothOk (l : List Rqt) (rs : List Rst) : Prop where
  hq : chkRqs l = 0
  hr : chkRss rs = 0
  ln : l.length = rs.length
  nm : ∀ (k : Nat) (h1 : k < l.length) (h2 : k < rs.length), rs[k].nm = l[k].nm
theorem chkBo_zero {l : List Rqt} {rs : List Rst} (h : chkBo l rs = 0) : BothOk l rs := by
  unfold chkBo at h
  by_cases hz : chk3 l rs = 0
  · rw [if_pos hz] at h
    unfold chk3 at hz
    rw [firstI_zero] at hz
    simp only [List.mem_cons, List.not_mem_nil, or_false, forall_eq_or_imp, forall_eq] at hz
    have hl : l.length = rs.length := Decidable.byContradiction fun hn => by
      have := hz.2.2
      rw [if_neg hn] at this
      cases this
    exact ⟨hz.1, hz.2.1, hl, cbG_zero l rs hl h⟩
  · rw [if_neg hz] at h
    exact absurd h hz
theorem chkRq_mov {q : Rqt} {m : Int} (h : chkRq q = 0) (hm : 0 ≤ m ∧ m ≤ 1439) : chkRq (movQ q m) = 0 := by
  unfold chkRq at h ⊢
  rw [firstI_zero] at h ⊢
  simp only [List.mem_cons, List.not_mem_nil, or_false, forall_eq_or_imp, forall_eq] at h ⊢
  obtain ⟨h1, h2, h3, h4, h5, h6, h7, h8, h9, h10, h11, h12⟩ := h
  exact ⟨h1, h2, h3, h4, h5, h6, h7, h8, rng_zero.2 hm, h10, h11, h12⟩
structure AnsOk (x : Lnt) : Prop where
  ok : chkLn x = 0
  ac : actK x.ac = ANS
  nc : x.ac ≠ [67]
  nr : x.ac ≠ [82]
theorem ans_ok {q : Rqt} {r : Rst} (hq : chkRq q = 0) (hr : 0 ≤ r.mi ∧ r.mi ≤ (if r.gr = true then 1439 else 0)) : AnsOk (ansLn q r) := by
  unfold ansLn
  by_cases hg : r.gr = true
  · rw [if_pos hg]
    rw [if_pos hg] at hr
    by_cases hm : r.mi = q.mi
    · rw [if_pos hm]
      exact ⟨by rw [chkLn_eq, if_pos (show actB [75] = true by decide)]; exact hq, (show actK [75] = ANS by decide), by simp, by simp⟩
    · rw [if_neg hm]
      exact ⟨by rw [chkLn_eq, if_pos (show actB [79] = true by decide)]; exact chkRq_mov hq hr, (show actK [79] = ANS by decide), by simp, by simp⟩
  · rw [if_neg hg]
    exact ⟨by rw [chkLn_eq, if_pos (show actB [85] = true by decide)]; exact hq, (show actK [85] = ANS by decide), by simp, by simp⟩
theorem ans_lines : ∀ (ls : List Lnt) (p : Option Lnt) (i : Nat), openO p = false → (∀ x ∈ ls, AnsOk x) → chkLs ANS p i ls = (0, 0)
  | [], p, i, hp, _ => by rw [chkLs, hp]; rfl
  | x :: r, p, i, hp, h => by
    have hx := h x (List.mem_cons_self ..)
    have e : lnE ANS p x = 0 := by
      unfold lnE
      rw [hx.ok, if_pos hx.ac, hp, decide_eq_false hx.nr]
      rfl
    rw [chkLs, if_pos e]
    exact ans_lines r (some x) (i + 1) (decide_eq_false hx.nc) fun y hy => h y (List.mem_cons_of_mem _ hy)
theorem ansL_ok {l : List Rqt} {rs : List Rst} (h : BothOk l rs) : ∀ x ∈ ansL l rs, AnsOk x := by
  intro x hx
  obtain ⟨k, hk, rfl⟩ := List.getElem_of_mem hx
  have hk' : k < l.length ∧ k < rs.length := by
    unfold ansL at hk
    rw [List.length_zipWith] at hk
    omega
  have e : (ansL l rs)[k] = ansLn l[k] rs[k] := List.getElem_zipWith ..
  rw [e]
  exact ans_ok ((chkRqs_zero h.hq).2.2 _ (List.getElem_mem hk'.1)) ((chkRss_zero h.hr).2 _ (List.getElem_mem hk'.2))
theorem ansL_len {l : List Rqt} {rs : List Rst} (h : l.length = rs.length) : (ansL l rs).length = l.length := by
  unfold ansL
  rw [List.length_zipWith]
  omega
theorem ans_msg {l : List Rqt} {rs : List Rst} (h : BothOk l rs) {ai se : List UInt8} {da : Int} (hh : headE ai se da = 0) : OkMs ⟨ANS, ai, se, da, ansL l rs⟩ :=
  ⟨show msgB ANS = true by decide, hh, by show (ansL l rs).length ≤ 64; rw [ansL_len h.ln]; exact (chkRqs_zero h.hq).1, by show (chkLs ANS none 0 (ansL l rs)).2 = 0; rw [ans_lines _ none 0 rfl (ansL_ok h)]⟩
theorem ansLn_nm (q : Rqt) (r : Rst) : (ansLn q r).rq.nm = q.nm := by
  unfold ansLn
  split
  · split <;> rfl
  · rfl
theorem ans_names : ∀ (l : List Rqt) (rs : List Rst), l.length = rs.length → nmsL (ansL l rs) = nmsQ l
  | [], [], _ => rfl
  | q :: a, r :: b, h => by
    have ih := ans_names a b (by simpa using h)
    show (ansLn q r).rq.nm :: nmsL (ansL a b) = q.nm :: nmsQ a
    rw [ih, ansLn_nm]
theorem ans_once {l : List Rqt} {rs : List Rst} (h : BothOk l rs) : ¬ DupL (ansL l rs) := by
  rintro ⟨k, hk, hm⟩
  have hu := (chkRqs_zero h.hq).2.1
  rw [← ans_names l rs h.ln] at hu
  have hp := List.pairwise_iff_getElem.1 hu
  have hn : (nmsL (ansL l rs)).length = (ansL l rs).length := List.length_map ..
  unfold nmsL at hm
  rw [List.mem_map] at hm
  obtain ⟨x, hx, e⟩ := hm
  rw [List.mem_take_iff_getElem] at hx
  obtain ⟨i, hi, rfl⟩ := hx
  exact hp i k (by omega) (by omega) (by omega) (by simpa [nmsL] using e)
theorem ans_res : ∀ (l : List Rqt) (rs : List Rst), l.length = rs.length → (∀ (k : Nat) (h1 : k < l.length) (h2 : k < rs.length), rs[k].nm = l[k].nm) → (∀ x ∈ rs, 0 ≤ x.mi ∧ x.mi ≤ (if x.gr = true then 1439 else 0)) → (ansL l rs).map resOf = rs
  | [], [], _, _, _ => rfl
  | q :: a, r :: b, h, hn, hr => by
    have ih := ans_res a b (by simpa using h) (fun k h1 h2 => hn (k + 1) (by simpa using h1) (by simpa using h2)) fun x hx => hr x (List.mem_cons_of_mem _ hx)
    have h0 := hr r (List.mem_cons_self ..)
    have e : r.nm = q.nm := hn 0 (by simp) (by simp)
    show resOf (ansLn q r) :: (ansL a b).map resOf = r :: b
    rw [ih]
    congr 1
    obtain ⟨nm, gr, mi⟩ := r
    simp only at h0 e
    subst e
    unfold ansLn
    cases gr with
    | true =>
      rw [if_pos rfl]
      by_cases hm : mi = q.mi
      · rw [if_pos hm, hm]
        exact if_pos (.inl rfl)
      · rw [if_neg hm]
        exact if_pos (.inr rfl)
    | false =>
      have : mi = 0 := by simp at h0; omega
      subst this
      rw [if_neg (by simp)]
      exact if_neg (by show ¬ (([85] : List UInt8) = [75] ∨ ([85] : List UInt8) = [79]); decide)
end Go.Proofs.YtmjifdpcoaeehaaGreatDoor.Co
