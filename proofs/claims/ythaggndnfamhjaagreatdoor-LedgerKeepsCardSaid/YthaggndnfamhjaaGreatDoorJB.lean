/- A lemma of this claim: an operation taken first. -/
import Derived.OrdersHeld
import Derived.KernelRfl
import Derived.Tactics

namespace Go.Proofs.YthaggndnfamhjaaGreatDoor
open Go
theorem sT{P:Program}{ops:Array Oper}{Q:Exit→Act→World→Prop}{md:Region.Mode}{S:World→Prop}{oi:Oper}{v:Value}{fuel:Nat}{l:Array Bool}{a:Act}{w:World}(i:Nat)(h:wpAnyH P md ops Q S fuel (l.setIfInBounds i true) (a.put oi.dst v) w)(hi:ops[i]?=some oi:=by rfl)(hs:Region.noSelect ops=true:=by kernel_rfl)(hf:Region.free md ops l i=true:=by kernel_rfl)(hr:(Region.ready md ops l).contains i=true:=by kernel_rfl)(hQ:∀c a w,Q (.panic c) (a.put oi.dst v) w→Q (.panic c) a w:=by exact fun _ _ _ h=>h)(hw:Region.wanted oi (yielded ops a.tmps)=true:=by rfl)(hy:∀w,S w→(execOp a.eval oi).run P w= .ok (.value v) w:=by (intro W hW;(try dsimp only at hW);go_simp;try with_reducible rfl))(hS:S w:=by assumption):wpAnyH P md ops Q S (fuel+1) l a w:=wpAnyH_take hi hs hf hr hQ (.inl ⟨hw,hy⟩) hS h
end Go.Proofs.YthaggndnfamhjaaGreatDoor
