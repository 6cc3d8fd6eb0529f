/- Texts, joined. -/
import Derived.Test.YthaggndnfamhjaaGreatDoorProg
import Derived.Test.YthaggndnfamhjaaGreatDoorJW10
import Derived.Test.YthaggndnfamhjaaGreatDoorJW24
import Derived.Test.YthaggndnfamhjaaGreatDoorJW12

set_option linter.unusedSimpArgs false
set_option linter.unusedVariables false
set_option maxRecDepth 100000
set_option maxHeartbeats 16000000
namespace Go.Proofs.YthaggndnfamhjaaGreatDoor
open Go.RowKit
def uJ(B:Nat)(w:World)(v:Value)(l:List TxX):Prop:=SlN txR B w v l∧∀t ∈ l,TxN B w t
theorem uJ.t{B:Nat}{w:World}{v:Value}{l:List TxX}(h:uJ B w v l)(r:Option Nat)(hr:∀g,r=some g→g<B):SlT w r v l:=⟨h.1.sl r hr,fun t ht=>(h.2 t ht).d r hr⟩
theorem uJ.fr{B:Nat}{r:Option Nat}{w w':World}{v:Value}{l:List TxX}(h:uJ B w v l)(f:Fr r w w')(hr:∀g,r=some g→g<B:=by simp):uJ B w' v l:=⟨h.1.fr f hr,fun t ht=>(h.2 t ht).fr f hr⟩
theorem uJ.mono{B B':Nat}{w:World}{v:Value}{l:List TxX}(h:uJ B w v l)(hB:B'≤B):uJ B' w v l:=⟨h.1.mono hB,fun t ht=>(h.2 t ht).mono hB⟩
def yW(B:Nat)(w:World)(v:Value)(i:Int)(l:List TxX):Prop:=∀t ∈ l,(1≤t.src∧t.src<i)∧vTx t.pl=true∧EV t∧TxO B w v t
theorem yW.keep{B B':Nat}{w w':World}{v v':Value}{i:Int}{l:List TxX}(h:yW B w v i l)(hD:∀z,Dx B w v z→Dx B' w' v' z∧w'.heap[z]?=w.heap[z]?):yW B' w' v' i l:=fun t ht=>⟨(h t ht).1,(h t ht).2.1,(h t ht).2.2.1,(h t ht).2.2.2.keep hD⟩
theorem yW.up{B:Nat}{w:World}{v:Value}{i:Int}{l:List TxX}(h:yW B w v i l):yW B w v (i+1) l:=fun t ht=>⟨⟨(h t ht).1.1,by have:=(h t ht).1.2;omega⟩,(h t ht).2⟩
theorem DQ{t:TxX}(h1:1≤t.src∧t.src≤1000)(h2:1≤t.seq∧t.seq≤1000000)(h3:1≤t.fee∧t.fee≤100000)(h4:1≤t.ops.length∧t.ops.length≤4)(h5:∀x ∈ t.ops,vOp x.o=true):vTx t.pl=true:=by
 rw[wH];simp only[Bool.and_eq_true,eQ,dZ];refine⟨h1,h2,h3,⟨by omega,by omega⟩,?_⟩;exact List.all_eq_true.2 h5
end Go.Proofs.YthaggndnfamhjaaGreatDoor
