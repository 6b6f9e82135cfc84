
/-
  A law's row at a call's end: the result is 'true', the input reads as before, and below the heap's old end nothing has turned.
-/
import Derived.Below
import Derived.ChangeSame
import Derived.RowKit
import Derived.OpenShut
namespace Go.Proofs.YtkflcbhclegghaaGreatDoor
open Go.RowKit Go.WideShapes Go.ChangeShapes
section
variable{H:Type}{enc:TypeId × Value→ H}{P:Program}{f:Func}{s:ChangeSpec}{apart fresh handsOn again:Bool}{W W':World}{args:Array Value}{ds:List (DataW H)}{before:List MemPlace}{t:TypeId}
theorem law_post(hW:DataW.Whole enc P f.params.toList s.vars apart W args.toList ds [] before)(hv:s.vars=[])(hf:s.fn H (ds++ [])={ results:=[.lit (.bool true)],args:=ds })
    (hr:f.resultTypes=#[t])(ht:P.underlying t=some .bool)(hb:Below W.heap.size W W')
    (ha:∀ sp:Nat→ Bool,(∀ p ∈ before,sp p.block=true)→ DataW.TrodAll enc P W' 0 sp true f.params.toList args.toList ds before):
    s.post enc P f apart fresh handsOn again W args (.bool true) W':=by
  have low:∀ p ∈ before,p.block < W.heap.size:=λp hp=>hW.lt p hp
  have res:∀(b:Nat)(sp:Nat→ Bool)(hd:Bool),DataW.TrodAll enc P W' b sp hd f.resultTypes.toList ((Value.bool true).resultList f.resultTypes.size) [.lit (.bool true)] []:=λb sp hd=>by
    rw[hr]; exact trodAll_cons_mk (shut_bool ht _) trodAll_mk0
  have vars:∀ sp:Nat→ Bool,DataW.TrodVars enc P W' sp s.vars ([]:List (DataW H)) []:=λsp=>by rw[hv]; rfl
  obtain⟨p0,q0,h1,h2,h3,hz,hn⟩:=id hW
  refine⟨ds,[],before,[],before,[],hW,?_,?_,?_,?_,λ_=>⟨?_,[.lit (.bool true)]++ ds,[],before,?_,λp hp _=>hp⟩⟩
  · rw[hf]; exact res _ _ _
  · rw[hf]; exact ha _ λp hp=>by simpa using low p hp
  · rw[hf]; exact vars _
  · exact World.keptBut_mono (λp hp=>⟨hp,.inr (.inl hp)⟩) (hb.frame (· ∈ before))
  · exact ok_one hr rfl (okWide_bool_mk ht _)
  · refine⟨before,[],trodAll_append (ha _ λ_ _=>rfl) (res 0 _ true),vars _,(List.append_nil _).symm,λb o hp=>?_,λh=>hn h⟩
    rw[hb.frozen (low _ hp)]
    exact hz b o hp
end
end Go.Proofs.YtkflcbhclegghaaGreatDoor
