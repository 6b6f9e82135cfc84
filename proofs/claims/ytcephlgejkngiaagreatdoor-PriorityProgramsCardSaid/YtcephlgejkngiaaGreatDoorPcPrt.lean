
/-
  Priority: Print, by the program and by the reference.
-/
import Derived.Test.YtcephlgejkngiaaGreatDoorPlPrt
import Derived.Test.YtcephlgejkngiaaGreatDoorSpMsk
namespace Go.Proofs.YtcephlgejkngiaaGreatDoor.Co
open Go Go.Evl
set_option maxRecDepth 100000
theorem digitsF_same : ∀ (f k u : Nat), u < 10 ^ (f + 1) → u < 10 ^ (k + 1) → digitsF (f + 1) u = digitsF (k + 1) u
  | f, k, u, h1, h2 => by
    rw [digitsF, digitsF]
    split
    · rfl
    · rename_i hu
      cases f with
      | zero => simp at h1; omega
      | succ f =>
        cases k with
        | zero => simp at h2; omega
        | succ k =>
          rw [digitsF_same f k (u / 10) (by rw [Nat.pow_succ] at h1; omega) (by rw [Nat.pow_succ] at h2; omega)]
theorem byD_app (a b : List UInt8) : byD (a ++ b) = byD a ++ byD b := by simp [byD]
theorem byD_len (a : List UInt8) : (byD a).length = a.length := by simp [byD]
theorem bytesD_eq (a : List UInt8) : Evl.bytesD a = byD a := rfl
theorem stringX_row {bt et t n : Nat} {m : Mem} {o r : Evl.Id} {p : V} {xs : List D} {b : List UInt8} (h1 : Evl.look m o = some (.cells bt [p, .ref r 0 n n])) (h2 : Evl.look m r = some (.row false et 1 n xs)) (hn : n ≠ 0) (hb : Evl.bytesOf xs = some b) : stringX bt et [.ptr o 0 t] m = some (.d (.str b), upd m r .gone) := by
  simp only [stringX, h1, h2, hb]
  simp [hn]
def pgT (c : Cls) (k : Nat) : List (List UInt8) := (wsT c 0 ++ if 0 < c.wh.length then [whenL] else []) ++ (c.wh.take k).map tstL
def pgK (c : Cls) (k : Nat) : List (List UInt8) := (wsT c c.wh.length ++ if 0 < c.ky.length then [byL] else []) ++ (c.ky.take k).map keyL
theorem pgT_succ (c : Cls) {k : Nat} (h : k < c.wh.length) : pgT c (k + 1) = pgT c k ++ [tstL c.wh[k]] := by
  unfold pgT
  rw [List.take_add_one, List.getElem?_eq_getElem h, Option.toList_some, List.map_append, ← List.append_assoc]
  rfl
theorem pgK_succ (c : Cls) {k : Nat} (h : k < c.ky.length) : pgK c (k + 1) = pgK c k ++ [keyL c.ky[k]] := by
  unfold pgK
  rw [List.take_add_one, List.getElem?_eq_getElem h, Option.toList_some, List.map_append, ← List.append_assoc]
  rfl
theorem pgT_end (c : Cls) : pgT c c.wh.length = wsT c c.wh.length := by
  unfold pgT wsT
  by_cases h : 0 < c.wh.length
  · rw [if_pos h, if_pos rfl, if_neg (by omega)]
    simp
  · have e : c.wh = [] := List.length_eq_zero_iff.1 (by omega)
    simp [e]
theorem pgK_end (c : Cls) : pgK c c.ky.length = wsK c c.ky.length := by
  unfold pgK wsK
  by_cases h : 0 < c.ky.length
  · rw [if_pos h, if_neg (by omega)]
    simp
  · have e : c.ky = [] := List.length_eq_zero_iff.1 (by omega)
    simp [e]
theorem pgT_zero {c : Cls} (h : 0 < c.wh.length) : pgT c 0 = [[99, 108, 97, 115, 115], c.nm, whenL] := by
  unfold pgT
  rw [if_pos h]
  rfl
theorem pgK_zero {c : Cls} (h : 0 < c.ky.length) : pgK c 0 = wsT c c.wh.length ++ [byL] := by
  unfold pgK
  rw [if_pos h]
  simp
theorem pgT_le {c : Cls} (h : OkCls c) {k : Nat} (hk : k ≤ c.wh.length) : (pgT c k).length ≤ 20 := by
  have := h.wh
  unfold pgT
  rw [List.length_append, List.length_append, List.length_map, List.length_take]
  split <;> simp [wsT] <;> omega
theorem pgK_le {c : Cls} (h : OkCls c) {k : Nat} (hk : k ≤ c.ky.length) : (pgK c k).length ≤ 30 := by
  have := h.ky
  have h1 := (wsT_len h c.wh.length).1
  unfold pgK
  rw [List.length_append, List.length_append, List.length_map, List.length_take]
  split <;> simp <;> omega
def bldV : Nat → V
  | 0 => .d .nilp
  | _ + 1 => .ptr ⟨0, 5, 1⟩ 0 0
def txtC (p : Prg) (k : Nat) : List UInt8 := (p.cl.take k).flatMap clsL
section
variable {E : Oracle} (g : Good E)
include g
theorem s_Dec (n : Int) (h : 0 ≤ n ∧ n ≤ 999999999) : Fc E n_strconv_Itoa [I n] (S (decL n)) := s_Itoa g n (by omega)
theorem r_Dec (n : Int) (h : 0 ≤ n ∧ n ≤ 999999999) : Fc E n_ref01_Text [I n] (S (decL n)) := by
  have h1 := r_Text g 9 n (by decide) (by have : (10 ^ (9 + 1) : Nat) = 10000000000 := by decide
                                          omega)
  rw [digitsF_same 9 19 n.toNat (by have : (10 ^ (9 + 1) : Nat) = 10000000000 := by decide
                                    omega) (by have : (10 ^ (19 + 1) : Nat) = 100000000000000000000 := by decide
                                               omega)] at h1
  exact h1
theorem s_sign (k : Kyt) : Fc E n_priority_Key_sign [Kyv k] (S [if k.dn = true then 45 else 43]) := by
  refine g.fn code_priority_Key_sign rfl ?_
  obtain ⟨fa, dn⟩ := k
  cases dn
  all_goals repeat' ((conv => whnf); first
  | refine Br.tt ?_ | refine Br.ff ?_ | refine Need.w ?_ | refine Wr.w ?_ | refine Cmp.t ?_ | refine Cmp.f ?_ | refine Rem.w ?_ | refine Quo.w ?_ | refine PickV.now rfl ?_ | refine Pick.now rfl ?_ | refine Chk.mk rfl ?_ | refine PickW.w rfl ?_
    | (refine Ret.mk rfl))
set_option maxHeartbeats 32000000 in
theorem s_Print (p : Prg) (h : chkPg p = 0) : Fc E n_priority_Print [Pgv p] (.tup [S (prgL p), I 0]) := by
  refine g.fn code_priority_Print rfl ?_
  have ok := chkPg_zero h
  have h1 := s_CheckProgram g p ok.small
  rw [h] at h1
  have hmany := ok.many
  repeat' ((conv => whnf); first
  | refine Br.tt ?_ | refine Br.ff ?_ | refine Need.w ?_ | refine Wr.w ?_ | refine Cmp.t ?_ | refine Cmp.f ?_ | refine Rem.w ?_ | refine Quo.w ?_ | refine PickV.now rfl ?_ | refine Pick.now rfl ?_ | refine Chk.mk rfl ?_ | refine PickW.w rfl ?_
    | (apply CallI.of; assumption))
  refine LoopW.to (LoopW.up g (fun k => [(1, .ptr ⟨0, 1, 0⟩ 0 0), (5, .ptr ⟨0, 5, 1⟩ 0 0), (6, .fn n_priority_Print_1 [] [.ptr ⟨0, 5, 1⟩ 0 0]), (21, LC p.cl), (22, I p.cl.length), (23, I k)])
    (fun k => [(⟨0, 1, 0⟩, .cells ty_priority_Program [LC p.cl, I p.po, I p.of, I p.fo]), (⟨0, 5, 0⟩, .row false ty_uint8 1 (txtC p k).length (byD (txtC p k))), (⟨0, 5, 1⟩, .cells ty_strings_Builder [bldV k, .ref ⟨0, 5, 0⟩ 0 (txtC p k).length (txtC p k).length])])
    p.cl.length (fun k hk ih => ?_) 0 (Nat.zero_le _)) rfl rfl
  have hbl := byD_len (txtC p k)
  have htl : (txtC p k).length ≤ 9936 := txtC_len ok k
  by_cases hlt : k < p.cl.length
  · have ih := ih hlt
    have okc := ok.cs _ (List.getElem_mem hlt)
    have hs : txtC p (k + 1) = txtC p k ++ (joined 32 (wsK p.cl[k] p.cl[k].ky.length) ++ [10]) := txtC_succ hlt
    generalize hx : p.cl[k] = c at *
    have lw := okc.wh
    have lk := okc.ky
    have hjn : ∀ {n : Nat} {cs : List D}, n = (wsK c c.ky.length).length → cs = (wsK c c.ky.length).map D.str → Fc E n_strings_Join [.d (.list n cs), S [32]] (S (joined 32 (wsK c c.ky.length))) := fun h1 h2 => by
      subst h1 h2
      exact s_Join g _ (wsK_ne _ _) (Nat.le_trans (wsK_len okc _).1 (by decide)) (Nat.le_trans (jK_len okc _) (by decide))
    have hjl := jK_len okc c.ky.length
    rw [hs, byD_app, List.length_append] at ih
    generalize hJ : joined 32 (wsK c c.ky.length) = J at *
    generalize txtC p k = X at *
    rcases k with _ | k
    · by_cases hw : 0 < c.wh.length
      · repeat' ((conv => whnf); first
      | refine Br.tt ?_ | refine Br.ff ?_ | refine Need.w ?_ | refine Wr.w ?_ | refine Cmp.t ?_ | refine Cmp.f ?_ | refine Rem.w ?_ | refine Quo.w ?_ | refine PickV.now rfl ?_ | refine Pick.now rfl ?_ | refine Chk.mk rfl ?_ | refine PickW.w rfl ?_
          | (refine PickW.rec Cls.cells_length _ rfl hlt ?_; rw [hx]))
        refine LoopW.to (LoopW.up g (fun j => [(1, .ptr ⟨0, 1, 0⟩ 0 0), (5, .ptr ⟨0, 5, 1⟩ 0 0), (6, .fn n_priority_Print_1 [] [.ptr ⟨0, 5, 1⟩ 0 0]), (8, .ptr ⟨0, 8, 0⟩ 0 0), (9, .ref ⟨0, 29, 0⟩ 0 (pgT c j).length (pgT c j).length), (21, LC p.cl), (22, I p.cl.length), (23, I 0), (38, LT c.wh), (39, I c.wh.length), (40, I j)])
          (fun j => [(⟨0, 1, 0⟩, .cells ty_priority_Program [LC p.cl, I p.po, I p.of, I p.fo]), (⟨0, 5, 0⟩, .row false ty_uint8 1 X.length (byD X)), (⟨0, 5, 1⟩, .cells ty_strings_Builder [.d .nilp, .ref ⟨0, 5, 0⟩ 0 X.length X.length]), (⟨0, 8, 0⟩, .cells ty_priority_Class [S c.nm, LT c.wh, LK c.ky]), (⟨0, 29, 0⟩, .row false ty_string 1 (pgT c j).length ((pgT c j).map D.str))])
          c.wh.length (fun j hj jh => ?_) 0 (Nat.zero_le _)) (by rw [pgT_zero hw]; rfl) (by rw [pgT_zero hw]; rfl)
        have hpl := pgT_le okc hj
        by_cases hjl : j < c.wh.length
        · replace jh := jh hjl
          rw [pgT_succ c hjl] at jh
          have ht := okc.ts _ (List.getElem_mem hjl)
          have htl := tstL_len ht
          generalize hy : c.wh[j] = t at *
          have hd := s_Dec g t.va (rng_zero.1 ((firstI_zero _).1 ht (rng t.va 0 999999999) (by simp)))
          unfold tstL at htl jh
          generalize pgT c j = W at *
          simp only [List.length_append] at htl
          simp only [List.length_append, List.length_cons, List.length_nil, List.map_append, List.map_cons, List.map_nil] at jh
          repeat' ((conv => whnf); first
          | refine Br.tt ?_ | refine Br.ff ?_ | refine Need.w ?_ | refine Wr.w ?_ | refine Cmp.t ?_ | refine Cmp.f ?_ | refine Rem.w ?_ | refine Quo.w ?_ | refine PickV.now rfl ?_ | refine Pick.now rfl ?_ | refine Chk.mk rfl ?_ | refine PickW.w rfl ?_
            | (refine PickW.rec Tst.cells_length j rfl hjl ?_; rw [hy])
            | (apply CallI.of; assumption)
            | (refine Need.mk (by simp only [maxStr, List.length_append]; omega) ?_)
            | (refine Need.mk (by simp only [List.length_cons, List.length_nil, List.length_map]; omega) ?_)
            | (refine LoopW.to jh rfl rfl))
        · have hj' : j = c.wh.length := by omega
          subst hj'
          rw [pgT_end]
          have hwl := (wsT_len okc c.wh.length).1
          by_cases hk : 0 < c.ky.length
          · have e0 : pgK c 0 = wsT c c.wh.length ++ [byL] := by
              rw [pgK_zero hk]
            rw [← pgK_end] at hjn
            repeat' ((conv => whnf); first
            | refine Br.tt ?_ | refine Br.ff ?_ | refine Need.w ?_ | refine Wr.w ?_ | refine Cmp.t ?_ | refine Cmp.f ?_ | refine Rem.w ?_ | refine Quo.w ?_ | refine PickV.now rfl ?_ | refine Pick.now rfl ?_ | refine Chk.mk rfl ?_ | refine PickW.w rfl ?_
              | (refine Need.mk (by simp only [List.length_cons, List.length_nil, List.length_map]; omega) ?_))
            refine LoopW.to (LoopW.up g (fun j => [(1, .ptr ⟨0, 1, 0⟩ 0 0), (5, .ptr ⟨0, 5, 1⟩ 0 0), (6, .fn n_priority_Print_1 [] [.ptr ⟨0, 5, 1⟩ 0 0]), (9, .ref ⟨0, 29, 0⟩ 0 (pgK c j).length (pgK c j).length), (21, LC p.cl), (22, I p.cl.length), (23, I 0), (65, LK c.ky), (66, I c.ky.length), (67, I j)])
              (fun j => [(⟨0, 1, 0⟩, .cells ty_priority_Program [LC p.cl, I p.po, I p.of, I p.fo]), (⟨0, 5, 0⟩, .row false ty_uint8 1 X.length (byD X)), (⟨0, 5, 1⟩, .cells ty_strings_Builder [.d .nilp, .ref ⟨0, 5, 0⟩ 0 X.length X.length]), (⟨0, 8, 0⟩, .cells ty_priority_Class [S c.nm, LT c.wh, LK c.ky]), (⟨0, 29, 0⟩, .row false ty_string 1 (pgK c j).length ((pgK c j).map D.str))])
              c.ky.length (fun j hj jh => ?_) 0 (Nat.zero_le _)) (by rw [e0]; simp only [List.length_append, List.length_cons, List.length_nil]; rfl) (by rw [e0]; simp only [List.length_append, List.length_cons, List.length_nil, List.map_append, List.map_cons, List.map_nil]; rfl)
            have hpl := pgK_le okc hj
            by_cases hjl : j < c.ky.length
            · replace jh := jh hjl
              rw [pgK_succ c hjl] at jh
              have htl := keyL_len (okc.ks _ (List.getElem_mem hjl))
              generalize hy : c.ky[j] = t at *
              have hd := s_sign g t
              unfold keyL at htl jh
              generalize (if t.dn = true then (45 : UInt8) else 43) = sg at *
              generalize pgK c j = W at *
              simp only [List.length_append] at htl
              simp only [List.length_append, List.length_cons, List.length_nil, List.map_append, List.map_cons, List.map_nil] at jh
              repeat' ((conv => whnf); first
              | refine Br.tt ?_ | refine Br.ff ?_ | refine Need.w ?_ | refine Wr.w ?_ | refine Cmp.t ?_ | refine Cmp.f ?_ | refine Rem.w ?_ | refine Quo.w ?_ | refine PickV.now rfl ?_ | refine Pick.now rfl ?_ | refine Chk.mk rfl ?_ | refine PickW.w rfl ?_
                | (refine PickW.rec Kyt.cells_length j rfl hjl ?_; rw [hy])
                | (apply CallI.of; assumption)
                | (refine Need.mk (by simp only [maxStr, List.length_cons, List.length_nil] at *; omega) ?_)
                | (refine Need.mk (by simp only [List.length_cons, List.length_nil, List.length_map]; omega) ?_)
                | (refine LoopW.to jh rfl rfl))
            · have hj' : j = c.ky.length := by omega
              subst hj'
              generalize pgK c c.ky.length = W at *
              repeat' ((conv => whnf); first
              | refine Br.tt ?_ | refine Br.ff ?_ | refine Need.w ?_ | refine Wr.w ?_ | refine Cmp.t ?_ | refine Cmp.f ?_ | refine Rem.w ?_ | refine Quo.w ?_ | refine PickV.now rfl ?_ | refine Pick.now rfl ?_ | refine Chk.mk rfl ?_ | refine PickW.w rfl ?_
                | (refine LoopW.step (body := b_priority_Print_2) g.lim ?_)
                | (refine In.enter g.lim rfl code_priority_Print_1 ?_)
                | (refine CallI.of (hjn rfl (if_pos ⟨rfl, rfl⟩)) ?_)
                | (refine Need.mk (by simp only [maxStr, List.length_cons, List.length_nil]; omega) ?_)
                | (refine Need.mk (by simp [Evl.bytesD] <;> omega) ?_)
                | (refine In.enter g.lim rfl code_strings_Builder_WriteString ?_)
                | (refine In.extern g.lim (x := copyX ty_strings_Builder) rfl rfl ?_)
                | (refine Some'.mk ⟨_, rfl, ?_⟩)
                | (refine LoopW.to ih rfl ?_))
              simp only [List.length_append, List.length_cons, List.length_nil]
              rfl
          · have hK0 : wsK c c.ky.length = wsT c c.wh.length := by
              rw [show c.ky.length = 0 by omega, wsK_zero]
            rw [hK0] at hjn
            generalize wsT c c.wh.length = W at *
            repeat' ((conv => whnf); first
            | refine Br.tt ?_ | refine Br.ff ?_ | refine Need.w ?_ | refine Wr.w ?_ | refine Cmp.t ?_ | refine Cmp.f ?_ | refine Rem.w ?_ | refine Quo.w ?_ | refine PickV.now rfl ?_ | refine Pick.now rfl ?_ | refine Chk.mk rfl ?_ | refine PickW.w rfl ?_
              | (refine LoopW.step (body := b_priority_Print_2) g.lim ?_)
              | (refine In.enter g.lim rfl code_priority_Print_1 ?_)
              | (refine CallI.of (hjn rfl (if_pos ⟨rfl, rfl⟩)) ?_)
              | (refine Need.mk (by simp only [maxStr, List.length_cons, List.length_nil]; omega) ?_)
              | (refine Need.mk (by simp [Evl.bytesD] <;> omega) ?_)
              | (refine In.enter g.lim rfl code_strings_Builder_WriteString ?_)
              | (refine In.extern g.lim (x := copyX ty_strings_Builder) rfl rfl ?_)
              | (refine Some'.mk ⟨_, rfl, ?_⟩)
              | (refine LoopW.to ih rfl ?_))
            simp only [List.length_append, List.length_cons, List.length_nil]
            rfl
      · have hT : wsT c c.wh.length = [[99, 108, 97, 115, 115], c.nm] := by
          rw [show c.wh.length = 0 by omega]
          rfl
        by_cases hk : 0 < c.ky.length
        · have e0 : pgK c 0 = [[99, 108, 97, 115, 115], c.nm, byL] := by
            rw [pgK_zero hk, hT]
            rfl
          rw [← pgK_end] at hjn
          repeat' ((conv => whnf); first
          | refine Br.tt ?_ | refine Br.ff ?_ | refine Need.w ?_ | refine Wr.w ?_ | refine Cmp.t ?_ | refine Cmp.f ?_ | refine Rem.w ?_ | refine Quo.w ?_ | refine PickV.now rfl ?_ | refine Pick.now rfl ?_ | refine Chk.mk rfl ?_ | refine PickW.w rfl ?_
            | (refine PickW.rec Cls.cells_length _ rfl hlt ?_; rw [hx])
            | (refine LoopW.step (body := b_priority_Print_1) g.lim ?_)
            | (refine Need.mk (by simp only [List.length_cons, List.length_nil, List.length_map]; omega) ?_))
          refine LoopW.to (LoopW.up g (fun j => [(1, .ptr ⟨0, 1, 0⟩ 0 0), (5, .ptr ⟨0, 5, 1⟩ 0 0), (6, .fn n_priority_Print_1 [] [.ptr ⟨0, 5, 1⟩ 0 0]), (9, .ref ⟨0, 29, 0⟩ 0 (pgK c j).length (pgK c j).length), (21, LC p.cl), (22, I p.cl.length), (23, I 0), (65, LK c.ky), (66, I c.ky.length), (67, I j)])
            (fun j => [(⟨0, 1, 0⟩, .cells ty_priority_Program [LC p.cl, I p.po, I p.of, I p.fo]), (⟨0, 5, 0⟩, .row false ty_uint8 1 X.length (byD X)), (⟨0, 5, 1⟩, .cells ty_strings_Builder [.d .nilp, .ref ⟨0, 5, 0⟩ 0 X.length X.length]), (⟨0, 8, 0⟩, .cells ty_priority_Class [S c.nm, LT c.wh, LK c.ky]), (⟨0, 29, 0⟩, .row false ty_string 1 (pgK c j).length ((pgK c j).map D.str))])
            c.ky.length (fun j hj jh => ?_) 0 (Nat.zero_le _)) (by rw [e0]; dsimp only; rfl) (by rw [e0]; dsimp only; rfl)
          have hpl := pgK_le okc hj
          by_cases hjl : j < c.ky.length
          · replace jh := jh hjl
            rw [pgK_succ c hjl] at jh
            have htl := keyL_len (okc.ks _ (List.getElem_mem hjl))
            generalize hy : c.ky[j] = t at *
            have hd := s_sign g t
            unfold keyL at htl jh
            generalize (if t.dn = true then (45 : UInt8) else 43) = sg at *
            generalize pgK c j = W at *
            simp only [List.length_append] at htl
            simp only [List.length_append, List.length_cons, List.length_nil, List.map_append, List.map_cons, List.map_nil] at jh
            repeat' ((conv => whnf); first
            | refine Br.tt ?_ | refine Br.ff ?_ | refine Need.w ?_ | refine Wr.w ?_ | refine Cmp.t ?_ | refine Cmp.f ?_ | refine Rem.w ?_ | refine Quo.w ?_ | refine PickV.now rfl ?_ | refine Pick.now rfl ?_ | refine Chk.mk rfl ?_ | refine PickW.w rfl ?_
              | (refine PickW.rec Kyt.cells_length j rfl hjl ?_; rw [hy])
              | (apply CallI.of; assumption)
              | (refine Need.mk (by simp only [maxStr, List.length_cons, List.length_nil] at *; omega) ?_)
              | (refine Need.mk (by simp only [List.length_cons, List.length_nil, List.length_map]; omega) ?_)
              | (refine LoopW.to jh rfl rfl))
          · have hj' : j = c.ky.length := by omega
            subst hj'
            generalize pgK c c.ky.length = W at *
            repeat' ((conv => whnf); first
            | refine Br.tt ?_ | refine Br.ff ?_ | refine Need.w ?_ | refine Wr.w ?_ | refine Cmp.t ?_ | refine Cmp.f ?_ | refine Rem.w ?_ | refine Quo.w ?_ | refine PickV.now rfl ?_ | refine Pick.now rfl ?_ | refine Chk.mk rfl ?_ | refine PickW.w rfl ?_
              | (refine LoopW.step (body := b_priority_Print_2) g.lim ?_)
              | (refine In.enter g.lim rfl code_priority_Print_1 ?_)
              | (refine CallI.of (hjn rfl (if_pos ⟨rfl, rfl⟩)) ?_)
              | (refine Need.mk (by simp only [maxStr, List.length_cons, List.length_nil]; omega) ?_)
              | (refine Need.mk (by simp [Evl.bytesD] <;> omega) ?_)
              | (refine In.enter g.lim rfl code_strings_Builder_WriteString ?_)
              | (refine In.extern g.lim (x := copyX ty_strings_Builder) rfl rfl ?_)
              | (refine Some'.mk ⟨_, rfl, ?_⟩)
              | (refine LoopW.to ih rfl ?_))
            simp only [List.length_append, List.length_cons, List.length_nil]
            rfl
        · have hK0 : wsK c c.ky.length = wsT c c.wh.length := by
            rw [show c.ky.length = 0 by omega, wsK_zero]
          rw [hK0, hT] at hjn
  
          repeat' ((conv => whnf); first
          | refine Br.tt ?_ | refine Br.ff ?_ | refine Need.w ?_ | refine Wr.w ?_ | refine Cmp.t ?_ | refine Cmp.f ?_ | refine Rem.w ?_ | refine Quo.w ?_ | refine PickV.now rfl ?_ | refine Pick.now rfl ?_ | refine Chk.mk rfl ?_ | refine PickW.w rfl ?_
            | (refine PickW.rec Cls.cells_length _ rfl hlt ?_; rw [hx])
            | (refine LoopW.step (body := b_priority_Print_1) g.lim ?_)
            | (refine LoopW.step (body := b_priority_Print_2) g.lim ?_)
            | (refine In.enter g.lim rfl code_priority_Print_1 ?_)
            | (refine CallI.of (hjn rfl (if_pos ⟨rfl, rfl⟩)) ?_)
            | (refine Need.mk (by simp only [maxStr, List.length_cons, List.length_nil]; omega) ?_)
            | (refine Need.mk (by simp [Evl.bytesD] <;> omega) ?_)
            | (refine In.enter g.lim rfl code_strings_Builder_WriteString ?_)
            | (refine In.extern g.lim (x := copyX ty_strings_Builder) rfl rfl ?_)
            | (refine Some'.mk ⟨_, rfl, ?_⟩)
            | (refine LoopW.to ih rfl ?_))
          simp only [List.length_append, List.length_cons, List.length_nil]
          rfl
    · by_cases hw : 0 < c.wh.length
      · repeat' ((conv => whnf); first
      | refine Br.tt ?_ | refine Br.ff ?_ | refine Need.w ?_ | refine Wr.w ?_ | refine Cmp.t ?_ | refine Cmp.f ?_ | refine Rem.w ?_ | refine Quo.w ?_ | refine PickV.now rfl ?_ | refine Pick.now rfl ?_ | refine Chk.mk rfl ?_ | refine PickW.w rfl ?_
          | (refine PickW.rec Cls.cells_length _ rfl hlt ?_; rw [hx]))
        refine LoopW.to (LoopW.up g (fun j => [(1, .ptr ⟨0, 1, 0⟩ 0 0), (5, .ptr ⟨0, 5, 1⟩ 0 0), (6, .fn n_priority_Print_1 [] [.ptr ⟨0, 5, 1⟩ 0 0]), (8, .ptr ⟨0, 8, 0⟩ 0 0), (9, .ref ⟨0, 29, 0⟩ 0 (pgT c j).length (pgT c j).length), (21, LC p.cl), (22, I p.cl.length), (23, I (k + 1 : Nat)), (38, LT c.wh), (39, I c.wh.length), (40, I j)])
          (fun j => [(⟨0, 1, 0⟩, .cells ty_priority_Program [LC p.cl, I p.po, I p.of, I p.fo]), (⟨0, 5, 0⟩, .row false ty_uint8 1 X.length (byD X)), (⟨0, 5, 1⟩, .cells ty_strings_Builder [.ptr ⟨0, 5, 1⟩ 0 0, .ref ⟨0, 5, 0⟩ 0 X.length X.length]), (⟨0, 8, 0⟩, .cells ty_priority_Class [S c.nm, LT c.wh, LK c.ky]), (⟨0, 29, 0⟩, .row false ty_string 1 (pgT c j).length ((pgT c j).map D.str))])
          c.wh.length (fun j hj jh => ?_) 0 (Nat.zero_le _)) (by rw [pgT_zero hw]; rfl) (by rw [pgT_zero hw]; rfl)
        have hpl := pgT_le okc hj
        by_cases hjl : j < c.wh.length
        · replace jh := jh hjl
          rw [pgT_succ c hjl] at jh
          have ht := okc.ts _ (List.getElem_mem hjl)
          have htl := tstL_len ht
          generalize hy : c.wh[j] = t at *
          have hd := s_Dec g t.va (rng_zero.1 ((firstI_zero _).1 ht (rng t.va 0 999999999) (by simp)))
          unfold tstL at htl jh
          generalize pgT c j = W at *
          simp only [List.length_append] at htl
          simp only [List.length_append, List.length_cons, List.length_nil, List.map_append, List.map_cons, List.map_nil] at jh
          repeat' ((conv => whnf); first
          | refine Br.tt ?_ | refine Br.ff ?_ | refine Need.w ?_ | refine Wr.w ?_ | refine Cmp.t ?_ | refine Cmp.f ?_ | refine Rem.w ?_ | refine Quo.w ?_ | refine PickV.now rfl ?_ | refine Pick.now rfl ?_ | refine Chk.mk rfl ?_ | refine PickW.w rfl ?_
            | (refine PickW.rec Tst.cells_length j rfl hjl ?_; rw [hy])
            | (apply CallI.of; assumption)
            | (refine Need.mk (by simp only [maxStr, List.length_append]; omega) ?_)
            | (refine Need.mk (by simp only [List.length_cons, List.length_nil, List.length_map]; omega) ?_)
            | (refine LoopW.to jh rfl rfl))
        · have hj' : j = c.wh.length := by omega
          subst hj'
          rw [pgT_end]
          have hwl := (wsT_len okc c.wh.length).1
          by_cases hk : 0 < c.ky.length
          · have e0 : pgK c 0 = wsT c c.wh.length ++ [byL] := by
              rw [pgK_zero hk]
            rw [← pgK_end] at hjn
            repeat' ((conv => whnf); first
            | refine Br.tt ?_ | refine Br.ff ?_ | refine Need.w ?_ | refine Wr.w ?_ | refine Cmp.t ?_ | refine Cmp.f ?_ | refine Rem.w ?_ | refine Quo.w ?_ | refine PickV.now rfl ?_ | refine Pick.now rfl ?_ | refine Chk.mk rfl ?_ | refine PickW.w rfl ?_
              | (refine Need.mk (by simp only [List.length_cons, List.length_nil, List.length_map]; omega) ?_))
            refine LoopW.to (LoopW.up g (fun j => [(1, .ptr ⟨0, 1, 0⟩ 0 0), (5, .ptr ⟨0, 5, 1⟩ 0 0), (6, .fn n_priority_Print_1 [] [.ptr ⟨0, 5, 1⟩ 0 0]), (9, .ref ⟨0, 29, 0⟩ 0 (pgK c j).length (pgK c j).length), (21, LC p.cl), (22, I p.cl.length), (23, I (k + 1 : Nat)), (65, LK c.ky), (66, I c.ky.length), (67, I j)])
              (fun j => [(⟨0, 1, 0⟩, .cells ty_priority_Program [LC p.cl, I p.po, I p.of, I p.fo]), (⟨0, 5, 0⟩, .row false ty_uint8 1 X.length (byD X)), (⟨0, 5, 1⟩, .cells ty_strings_Builder [.ptr ⟨0, 5, 1⟩ 0 0, .ref ⟨0, 5, 0⟩ 0 X.length X.length]), (⟨0, 8, 0⟩, .cells ty_priority_Class [S c.nm, LT c.wh, LK c.ky]), (⟨0, 29, 0⟩, .row false ty_string 1 (pgK c j).length ((pgK c j).map D.str))])
              c.ky.length (fun j hj jh => ?_) 0 (Nat.zero_le _)) (by rw [e0]; simp only [List.length_append, List.length_cons, List.length_nil]; rfl) (by rw [e0]; simp only [List.length_append, List.length_cons, List.length_nil, List.map_append, List.map_cons, List.map_nil]; rfl)
            have hpl := pgK_le okc hj
            by_cases hjl : j < c.ky.length
            · replace jh := jh hjl
              rw [pgK_succ c hjl] at jh
              have htl := keyL_len (okc.ks _ (List.getElem_mem hjl))
              generalize hy : c.ky[j] = t at *
              have hd := s_sign g t
              unfold keyL at htl jh
              generalize (if t.dn = true then (45 : UInt8) else 43) = sg at *
              generalize pgK c j = W at *
              simp only [List.length_append] at htl
              simp only [List.length_append, List.length_cons, List.length_nil, List.map_append, List.map_cons, List.map_nil] at jh
              repeat' ((conv => whnf); first
              | refine Br.tt ?_ | refine Br.ff ?_ | refine Need.w ?_ | refine Wr.w ?_ | refine Cmp.t ?_ | refine Cmp.f ?_ | refine Rem.w ?_ | refine Quo.w ?_ | refine PickV.now rfl ?_ | refine Pick.now rfl ?_ | refine Chk.mk rfl ?_ | refine PickW.w rfl ?_
                | (refine PickW.rec Kyt.cells_length j rfl hjl ?_; rw [hy])
                | (apply CallI.of; assumption)
                | (refine Need.mk (by simp only [maxStr, List.length_cons, List.length_nil] at *; omega) ?_)
                | (refine Need.mk (by simp only [List.length_cons, List.length_nil, List.length_map]; omega) ?_)
                | (refine LoopW.to jh rfl rfl))
            · have hj' : j = c.ky.length := by omega
              subst hj'
              generalize pgK c c.ky.length = W at *
              repeat' ((conv => whnf); first
              | refine Br.tt ?_ | refine Br.ff ?_ | refine Need.w ?_ | refine Wr.w ?_ | refine Cmp.t ?_ | refine Cmp.f ?_ | refine Rem.w ?_ | refine Quo.w ?_ | refine PickV.now rfl ?_ | refine Pick.now rfl ?_ | refine Chk.mk rfl ?_ | refine PickW.w rfl ?_
                | (refine LoopW.step (body := b_priority_Print_2) g.lim ?_)
                | (refine In.enter g.lim rfl code_priority_Print_1 ?_)
                | (refine CallI.of (hjn rfl (if_pos ⟨rfl, rfl⟩)) ?_)
                | (refine Need.mk (by simp only [maxStr, List.length_cons, List.length_nil]; omega) ?_)
                | (refine Need.mk (by simp [Evl.bytesD] <;> omega) ?_)
                | (refine In.enter g.lim rfl code_strings_Builder_WriteString ?_)
                | (refine In.extern g.lim (x := copyX ty_strings_Builder) rfl rfl ?_)
                | (refine Some'.mk ⟨_, rfl, ?_⟩)
                | (refine LoopW.to ih rfl ?_))
              simp only [List.length_append, List.length_cons, List.length_nil]
              rfl
          · have hK0 : wsK c c.ky.length = wsT c c.wh.length := by
              rw [show c.ky.length = 0 by omega, wsK_zero]
            rw [hK0] at hjn
            generalize wsT c c.wh.length = W at *
            repeat' ((conv => whnf); first
            | refine Br.tt ?_ | refine Br.ff ?_ | refine Need.w ?_ | refine Wr.w ?_ | refine Cmp.t ?_ | refine Cmp.f ?_ | refine Rem.w ?_ | refine Quo.w ?_ | refine PickV.now rfl ?_ | refine Pick.now rfl ?_ | refine Chk.mk rfl ?_ | refine PickW.w rfl ?_
              | (refine LoopW.step (body := b_priority_Print_2) g.lim ?_)
              | (refine In.enter g.lim rfl code_priority_Print_1 ?_)
              | (refine CallI.of (hjn rfl (if_pos ⟨rfl, rfl⟩)) ?_)
              | (refine Need.mk (by simp only [maxStr, List.length_cons, List.length_nil]; omega) ?_)
              | (refine Need.mk (by simp [Evl.bytesD] <;> omega) ?_)
              | (refine In.enter g.lim rfl code_strings_Builder_WriteString ?_)
              | (refine In.extern g.lim (x := copyX ty_strings_Builder) rfl rfl ?_)
              | (refine Some'.mk ⟨_, rfl, ?_⟩)
              | (refine LoopW.to ih rfl ?_))
            simp only [List.length_append, List.length_cons, List.length_nil]
            rfl
      · have hT : wsT c c.wh.length = [[99, 108, 97, 115, 115], c.nm] := by
          rw [show c.wh.length = 0 by omega]
          rfl
        by_cases hk : 0 < c.ky.length
        · have e0 : pgK c 0 = [[99, 108, 97, 115, 115], c.nm, byL] := by
            rw [pgK_zero hk, hT]
            rfl
          rw [← pgK_end] at hjn
          repeat' ((conv => whnf); first
          | refine Br.tt ?_ | refine Br.ff ?_ | refine Need.w ?_ | refine Wr.w ?_ | refine Cmp.t ?_ | refine Cmp.f ?_ | refine Rem.w ?_ | refine Quo.w ?_ | refine PickV.now rfl ?_ | refine Pick.now rfl ?_ | refine Chk.mk rfl ?_ | refine PickW.w rfl ?_
            | (refine PickW.rec Cls.cells_length _ rfl hlt ?_; rw [hx])
            | (refine LoopW.step (body := b_priority_Print_1) g.lim ?_)
            | (refine Need.mk (by simp only [List.length_cons, List.length_nil, List.length_map]; omega) ?_))
          refine LoopW.to (LoopW.up g (fun j => [(1, .ptr ⟨0, 1, 0⟩ 0 0), (5, .ptr ⟨0, 5, 1⟩ 0 0), (6, .fn n_priority_Print_1 [] [.ptr ⟨0, 5, 1⟩ 0 0]), (9, .ref ⟨0, 29, 0⟩ 0 (pgK c j).length (pgK c j).length), (21, LC p.cl), (22, I p.cl.length), (23, I (k + 1 : Nat)), (65, LK c.ky), (66, I c.ky.length), (67, I j)])
            (fun j => [(⟨0, 1, 0⟩, .cells ty_priority_Program [LC p.cl, I p.po, I p.of, I p.fo]), (⟨0, 5, 0⟩, .row false ty_uint8 1 X.length (byD X)), (⟨0, 5, 1⟩, .cells ty_strings_Builder [.ptr ⟨0, 5, 1⟩ 0 0, .ref ⟨0, 5, 0⟩ 0 X.length X.length]), (⟨0, 8, 0⟩, .cells ty_priority_Class [S c.nm, LT c.wh, LK c.ky]), (⟨0, 29, 0⟩, .row false ty_string 1 (pgK c j).length ((pgK c j).map D.str))])
            c.ky.length (fun j hj jh => ?_) 0 (Nat.zero_le _)) (by rw [e0]; dsimp only; rfl) (by rw [e0]; dsimp only; rfl)
          have hpl := pgK_le okc hj
          by_cases hjl : j < c.ky.length
          · replace jh := jh hjl
            rw [pgK_succ c hjl] at jh
            have htl := keyL_len (okc.ks _ (List.getElem_mem hjl))
            generalize hy : c.ky[j] = t at *
            have hd := s_sign g t
            unfold keyL at htl jh
            generalize (if t.dn = true then (45 : UInt8) else 43) = sg at *
            generalize pgK c j = W at *
            simp only [List.length_append] at htl
            simp only [List.length_append, List.length_cons, List.length_nil, List.map_append, List.map_cons, List.map_nil] at jh
            repeat' ((conv => whnf); first
            | refine Br.tt ?_ | refine Br.ff ?_ | refine Need.w ?_ | refine Wr.w ?_ | refine Cmp.t ?_ | refine Cmp.f ?_ | refine Rem.w ?_ | refine Quo.w ?_ | refine PickV.now rfl ?_ | refine Pick.now rfl ?_ | refine Chk.mk rfl ?_ | refine PickW.w rfl ?_
              | (refine PickW.rec Kyt.cells_length j rfl hjl ?_; rw [hy])
              | (apply CallI.of; assumption)
              | (refine Need.mk (by simp only [maxStr, List.length_cons, List.length_nil] at *; omega) ?_)
              | (refine Need.mk (by simp only [List.length_cons, List.length_nil, List.length_map]; omega) ?_)
              | (refine LoopW.to jh rfl rfl))
          · have hj' : j = c.ky.length := by omega
            subst hj'
            generalize pgK c c.ky.length = W at *
            repeat' ((conv => whnf); first
            | refine Br.tt ?_ | refine Br.ff ?_ | refine Need.w ?_ | refine Wr.w ?_ | refine Cmp.t ?_ | refine Cmp.f ?_ | refine Rem.w ?_ | refine Quo.w ?_ | refine PickV.now rfl ?_ | refine Pick.now rfl ?_ | refine Chk.mk rfl ?_ | refine PickW.w rfl ?_
              | (refine LoopW.step (body := b_priority_Print_2) g.lim ?_)
              | (refine In.enter g.lim rfl code_priority_Print_1 ?_)
              | (refine CallI.of (hjn rfl (if_pos ⟨rfl, rfl⟩)) ?_)
              | (refine Need.mk (by simp only [maxStr, List.length_cons, List.length_nil]; omega) ?_)
              | (refine Need.mk (by simp [Evl.bytesD] <;> omega) ?_)
              | (refine In.enter g.lim rfl code_strings_Builder_WriteString ?_)
              | (refine In.extern g.lim (x := copyX ty_strings_Builder) rfl rfl ?_)
              | (refine Some'.mk ⟨_, rfl, ?_⟩)
              | (refine LoopW.to ih rfl ?_))
            simp only [List.length_append, List.length_cons, List.length_nil]
            rfl
        · have hK0 : wsK c c.ky.length = wsT c c.wh.length := by
            rw [show c.ky.length = 0 by omega, wsK_zero]
          rw [hK0, hT] at hjn
  
          repeat' ((conv => whnf); first
          | refine Br.tt ?_ | refine Br.ff ?_ | refine Need.w ?_ | refine Wr.w ?_ | refine Cmp.t ?_ | refine Cmp.f ?_ | refine Rem.w ?_ | refine Quo.w ?_ | refine PickV.now rfl ?_ | refine Pick.now rfl ?_ | refine Chk.mk rfl ?_ | refine PickW.w rfl ?_
            | (refine PickW.rec Cls.cells_length _ rfl hlt ?_; rw [hx])
            | (refine LoopW.step (body := b_priority_Print_1) g.lim ?_)
            | (refine LoopW.step (body := b_priority_Print_2) g.lim ?_)
            | (refine In.enter g.lim rfl code_priority_Print_1 ?_)
            | (refine CallI.of (hjn rfl (if_pos ⟨rfl, rfl⟩)) ?_)
            | (refine Need.mk (by simp only [maxStr, List.length_cons, List.length_nil]; omega) ?_)
            | (refine Need.mk (by simp [Evl.bytesD] <;> omega) ?_)
            | (refine In.enter g.lim rfl code_strings_Builder_WriteString ?_)
            | (refine In.extern g.lim (x := copyX ty_strings_Builder) rfl rfl ?_)
            | (refine Some'.mk ⟨_, rfl, ?_⟩)
            | (refine LoopW.to ih rfl ?_))
          simp only [List.length_append, List.length_cons, List.length_nil]
          rfl
  · obtain rfl : k = p.cl.length := by omega
    obtain ⟨n, hn⟩ : ∃ n, p.cl.length = n + 1 := ⟨p.cl.length - 1, by have := ok.one; omega⟩
    have o1 := ok.po
    have o2 := ok.of'
    have o3 := ok.fo
    have d1 := s_Dec g p.po (by omega)
    have d2 := s_Dec g p.fo (by omega)
    have d3 := s_Dec g p.of (by omega)
    have hjl := poolW_len p
    have hjn : Fc E n_strings_Join [.d (.list 6 [.str [112, 111, 111, 108], .str (decL p.po), .str [115, 104, 97, 114, 101], .str (decL p.fo), .str [111, 102], .str (decL p.of)]), S [32]] (S (joined 32 (poolW p))) := s_Join g (poolW p) (by simp [poolW]) (show 6 ≤ 1000000 by decide) (Nat.le_trans hjl (by decide))
    have he : prgL p = txtC p p.cl.length ++ (joined 32 (poolW p) ++ [10]) := by
      unfold prgL txtC
      rw [List.take_length]
    have hb : Evl.bytesOf (byD (txtC p p.cl.length) ++ Evl.bytesD (joined 32 (poolW p) ++ [10])) = some (prgL p) := by
      rw [bytesD_eq, ← byD_app, bytesOf_byD, he]
    generalize joined 32 (poolW p) = J at *
    generalize txtC p p.cl.length = X at *
    have hbv : bldV p.cl.length = .ptr ⟨0, 5, 1⟩ 0 0 := by rw [hn]; rfl
    rw [hbv]
    repeat' ((conv => whnf); first
    | refine Br.tt ?_ | refine Br.ff ?_ | refine Need.w ?_ | refine Wr.w ?_ | refine Cmp.t ?_ | refine Cmp.f ?_ | refine Rem.w ?_ | refine Quo.w ?_ | refine PickV.now rfl ?_ | refine Pick.now rfl ?_ | refine Chk.mk rfl ?_ | refine PickW.w rfl ?_
      | (apply CallI.of; assumption)
      | (refine In.enter g.lim rfl code_priority_Print_1 ?_)
      | (refine Need.mk (by simp only [maxStr, List.length_cons, List.length_nil]; omega) ?_)
      | (refine Need.mk (by simp [Evl.bytesD] <;> omega) ?_)
      | (refine In.enter g.lim rfl code_strings_Builder_WriteString ?_)
      | (refine In.extern g.lim (x := copyX ty_strings_Builder) rfl rfl ?_)
      | (refine In.extern g.lim (x := stringX ty_strings_Builder ty_uint8) rfl (stringX_row rfl rfl (by simp) hb) ?_)
      | (refine Some'.mk ⟨_, rfl, ?_⟩)
      | (refine Ret.mk rfl))
set_option maxHeartbeats 32000000 in
theorem r_Print (p : Prg) (h : chkPg p = 0) : Fc E n_ref05_Print [Pgv p] (S (prgL p)) := by
  refine g.fn code_ref05_Print rfl ?_
  have ok := chkPg_zero h
  have hmany := ok.many
  repeat' ((conv => whnf); first
  | refine Br.tt ?_ | refine Br.ff ?_ | refine Need.w ?_ | refine Wr.w ?_ | refine Cmp.t ?_ | refine Cmp.f ?_ | refine Rem.w ?_ | refine Quo.w ?_ | refine PickV.now rfl ?_ | refine Pick.now rfl ?_ | refine Chk.mk rfl ?_ | refine PickW.w rfl ?_)
  refine LoopW.to (LoopW.up g (fun k => [(1, .ptr ⟨0, 1, 0⟩ 0 0), (3, S (txtC p k)), (4, I k)]) (fun _ => _) p.cl.length (fun k hk ih => ?_) 0 (Nat.zero_le _)) rfl rfl
  have htl : (txtC p k).length ≤ 9936 := txtC_len ok k
  by_cases hlt : k < p.cl.length
  · have ih := ih hlt
    have okc := ok.cs _ (List.getElem_mem hlt)
    have hs : txtC p (k + 1) = txtC p k ++ (joined 32 (wsK p.cl[k] p.cl[k].ky.length) ++ [10]) := txtC_succ hlt
    generalize hx : p.cl[k] = c at *
    have lw := okc.wh
    have lk := okc.ky
    have hnm := name_len okc.nm
    rw [hs] at ih
    generalize txtC p k = X at *
    repeat' ((conv => whnf); first
    | refine Br.tt ?_ | refine Br.ff ?_ | refine Need.w ?_ | refine Wr.w ?_ | refine Cmp.t ?_ | refine Cmp.f ?_ | refine Rem.w ?_ | refine Quo.w ?_ | refine PickV.now rfl ?_ | refine Pick.now rfl ?_ | refine Chk.mk rfl ?_ | refine PickW.w rfl ?_
      | (refine PickW.rec Cls.cells_length _ rfl hlt ?_; rw [hx])
      | (refine Need.mk (by simp only [maxStr, List.length_append, List.length_cons, List.length_nil]; omega) ?_))
    refine LoopW.to (LoopW.up g (fun j => [(1, .ptr ⟨0, 1, 0⟩ 0 0), (3, S (X ++ joined 32 (wsT c j))), (4, I k), (5, .ptr ⟨0, 5, 0⟩ 0 0), (6, I j)]) (fun _ => _) c.wh.length (fun j hj jh => ?_) 0 (Nat.zero_le _)) (by simp [wsT, joined]) rfl
    have hjl := jT_len okc j
    by_cases hlj : j < c.wh.length
    · replace jh := jh hlj
      have ht := okc.ts _ (List.getElem_mem hlj)
      have htl := tstL_len ht
      have hd := r_Dec g c.wh[j].va (rng_zero.1 ((firstI_zero _).1 ht (rng c.wh[j].va 0 999999999) (by simp)))
      have hjs : X ++ joined 32 (wsT c (j + 1)) = (if j = 0 then X ++ joined 32 (wsT c j) ++ [32, 119, 104, 101, 110] else X ++ joined 32 (wsT c j)) ++ [32] ++ c.wh[j].fa ++ c.wh[j].op ++ decL c.wh[j].va := by
        by_cases h0 : j = 0
        · subst h0
          rw [if_pos rfl, wsT_one c hlj, joined_snoc _ _ _ (by simp), joined_snoc _ _ _ (wsT_ne _ _)]
          simp [tstL]
        · rw [if_neg h0, wsT_succ c h0 hlj, joined_snoc _ _ _ (wsT_ne _ _)]
          simp [tstL]
      rw [hjs] at jh
      unfold tstL at htl
      simp only [List.length_append] at htl
      generalize hy : c.wh[j] = t at *
      generalize joined 32 (wsT c j) = Y at *
      by_cases h0 : j = 0
      · rw [if_pos h0] at jh
        repeat' ((conv => whnf); first
        | refine Br.tt ?_ | refine Br.ff ?_ | refine Need.w ?_ | refine Wr.w ?_ | refine Cmp.t ?_ | refine Cmp.f ?_ | refine Rem.w ?_ | refine Quo.w ?_ | refine PickV.now rfl ?_ | refine Pick.now rfl ?_ | refine Chk.mk rfl ?_ | refine PickW.w rfl ?_
          | (refine Pick.rec Tst.cells_length j rfl hlj (by rw [hy]; rfl) ?_)
          | (apply CallI.of; assumption)
          | (refine Need.mk (by simp only [maxStr, List.length_append, List.length_cons, List.length_nil]; omega) ?_)
          | (refine LoopW.to jh rfl rfl))
      · rw [if_neg h0] at jh
        repeat' ((conv => whnf); first
        | refine Br.tt ?_ | refine Br.ff ?_ | refine Need.w ?_ | refine Wr.w ?_ | refine Cmp.t ?_ | refine Cmp.f ?_ | refine Rem.w ?_ | refine Quo.w ?_ | refine PickV.now rfl ?_ | refine Pick.now rfl ?_ | refine Chk.mk rfl ?_ | refine PickW.w rfl ?_
          | (refine Pick.rec Tst.cells_length j rfl hlj (by rw [hy]; rfl) ?_)
          | (apply CallI.of; assumption)
          | (refine Need.mk (by simp only [maxStr, List.length_append, List.length_cons, List.length_nil]; omega) ?_)
          | (refine LoopW.to jh rfl rfl))
    · obtain rfl : j = c.wh.length := by omega
      rw [← wsK_zero]
      repeat' ((conv => whnf); first
      | refine Br.tt ?_ | refine Br.ff ?_ | refine Need.w ?_ | refine Wr.w ?_ | refine Cmp.t ?_ | refine Cmp.f ?_ | refine Rem.w ?_ | refine Quo.w ?_ | refine PickV.now rfl ?_ | refine Pick.now rfl ?_ | refine Chk.mk rfl ?_ | refine PickW.w rfl ?_)
      refine LoopW.to (LoopW.up g (fun j => [(1, .ptr ⟨0, 1, 0⟩ 0 0), (3, S (X ++ joined 32 (wsK c j))), (4, I k), (5, .ptr ⟨0, 5, 0⟩ 0 0), (7, I j)]) (fun _ => _) c.ky.length (fun j hj jh => ?_) 0 (Nat.zero_le _)) rfl rfl
      have hjl := jK_len okc j
      by_cases hlj : j < c.ky.length
      · replace jh := jh hlj
        have htl := keyL_len (okc.ks _ (List.getElem_mem hlj))
        have hjs : X ++ joined 32 (wsK c (j + 1)) = (if j = 0 then X ++ joined 32 (wsK c j) ++ [32, 98, 121] else X ++ joined 32 (wsK c j)) ++ [32] ++ c.ky[j].fa ++ [if c.ky[j].dn = true then 45 else 43] := by
          by_cases h0 : j = 0
          · subst h0
            rw [if_pos rfl, wsK_one c hlj, joined_snoc _ _ _ (by simp), joined_snoc _ _ _ (wsK_ne _ _)]
            simp [keyL]
          · rw [if_neg h0, wsK_succ c h0 hlj, joined_snoc _ _ _ (wsK_ne _ _)]
            simp [keyL]
        rw [hjs] at jh
        unfold keyL at htl
        simp only [List.length_append] at htl
        generalize hy : c.ky[j] = t at *
        obtain ⟨fa, dn⟩ := t
        dsimp only at jh htl
        generalize joined 32 (wsK c j) = Y at *
        by_cases h0 : j = 0
        · rw [if_pos h0] at jh
          cases dn
          all_goals repeat' ((conv => whnf); first
          | refine Br.tt ?_ | refine Br.ff ?_ | refine Need.w ?_ | refine Wr.w ?_ | refine Cmp.t ?_ | refine Cmp.f ?_ | refine Rem.w ?_ | refine Quo.w ?_ | refine PickV.now rfl ?_ | refine Pick.now rfl ?_ | refine Chk.mk rfl ?_ | refine PickW.w rfl ?_
            | (refine Pick.rec Kyt.cells_length j rfl hlj (by rw [hy]; rfl) ?_)
            | (refine Need.mk (by simp only [maxStr, List.length_append, List.length_cons, List.length_nil]; omega) ?_)
            | (refine LoopW.to jh rfl rfl))
        · rw [if_neg h0] at jh
          cases dn
          all_goals repeat' ((conv => whnf); first
          | refine Br.tt ?_ | refine Br.ff ?_ | refine Need.w ?_ | refine Wr.w ?_ | refine Cmp.t ?_ | refine Cmp.f ?_ | refine Rem.w ?_ | refine Quo.w ?_ | refine PickV.now rfl ?_ | refine Pick.now rfl ?_ | refine Chk.mk rfl ?_ | refine PickW.w rfl ?_
            | (refine Pick.rec Kyt.cells_length j rfl hlj (by rw [hy]; rfl) ?_)
            | (refine Need.mk (by simp only [maxStr, List.length_append, List.length_cons, List.length_nil]; omega) ?_)
            | (refine LoopW.to jh rfl rfl))
      · obtain rfl : j = c.ky.length := by omega
        repeat' ((conv => whnf); first
        | refine Br.tt ?_ | refine Br.ff ?_ | refine Need.w ?_ | refine Wr.w ?_ | refine Cmp.t ?_ | refine Cmp.f ?_ | refine Rem.w ?_ | refine Quo.w ?_ | refine PickV.now rfl ?_ | refine Pick.now rfl ?_ | refine Chk.mk rfl ?_ | refine PickW.w rfl ?_
          | (refine Need.mk (by simp only [maxStr, List.length_append, List.length_cons, List.length_nil]; omega) ?_)
          | (refine LoopW.to ih (by rw [List.append_assoc]; rfl) rfl))
  · obtain rfl : k = p.cl.length := by omega
    have o1 := ok.po
    have o2 := ok.of'
    have o3 := ok.fo
    have d1 := r_Dec g p.po (by omega)
    have d2 := r_Dec g p.fo (by omega)
    have d3 := r_Dec g p.of (by omega)
    have l1 := decL_len p.po
    have l2 := decL_len p.fo
    have l3 := decL_len p.of
    have he : txtC p p.cl.length ++ [112, 111, 111, 108, 32] ++ decL p.po ++ [32, 115, 104, 97, 114, 101, 32] ++ decL p.fo ++ [32, 111, 102, 32] ++ decL p.of ++ [10] = prgL p := by
      unfold prgL txtC
      rw [List.take_length]
      simp [poolW, joined]
    rw [← he]
    generalize txtC p p.cl.length = X at *
    repeat' ((conv => whnf); first
    | refine Br.tt ?_ | refine Br.ff ?_ | refine Need.w ?_ | refine Wr.w ?_ | refine Cmp.t ?_ | refine Cmp.f ?_ | refine Rem.w ?_ | refine Quo.w ?_ | refine PickV.now rfl ?_ | refine Pick.now rfl ?_ | refine Chk.mk rfl ?_ | refine PickW.w rfl ?_
      | (apply CallI.of; assumption)
      | (refine Need.mk (by simp only [maxStr, List.length_append, List.length_cons, List.length_nil]; omega) ?_)
      | (refine Ret.mk rfl))
end
end Go.Proofs.YtcephlgejkngiaaGreatDoor.Co
