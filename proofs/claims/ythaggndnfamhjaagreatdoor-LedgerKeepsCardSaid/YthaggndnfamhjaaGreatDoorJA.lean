/- Lemmas of this claim for simp, some under one name. -/
import Derived.Calls
import Derived.Lib.Hide

namespace Go.Proofs.YthaggndnfamhjaaGreatDoor
open Go
theorem sH{p:Prop}(h:p):RowKit.Hid p:=h
theorem sI:(∀(a:Act)(v:Value)(d:Tmp),a.put (some d) v={tmps:=a.tmps.setIfInBounds d v,defers:=a.defers})∧(∀(a:Act)(v:Value),a.put none v=a)∧(∀{α:Type}(l:List α)(i:Nat)(a:α),l.toArray.setIfInBounds i a=(l.set i a).toArray)∧(∀{α:Type}{x:α}{xs:List α}{a:α},(x::xs).set 0 a=a::xs)∧(∀{α:Type}{x:α}{xs:List α}{i:Nat}{a:α},(x::xs).set (i+1) a=x::xs.set i a)∧(∀{α:Type}{xs:List α}{i:Nat}(h:i<xs.toArray.size),xs.toArray[i]=xs[i])∧(∀{α:Type}(a:α)(l:List α)(h:0<(a::l).length),(a::l)[0]=a)∧∀{α:Type}(a:α)(l:List α)(i:Nat)(h:i+1<(a::l).length),(a::l)[i+1]=l[i]'(Nat.lt_of_succ_lt_succ h):=⟨fun _ _ _=>rfl,fun _ _=>rfl,fun _ _ _=>by simp,rfl,rfl,fun _=>rfl,fun _ _ _=>rfl,fun _ _ _ _=>rfl⟩
theorem sJ:(∀{α:Type}{xs:List α}{i:Nat}(h:i<xs.toArray.size),xs.toArray[i]=xs[i])∧(∀{α:Type}(a:α)(l:List α)(h:0<(a::l).length),(a::l)[0]=a)∧∀{α:Type}(a:α)(l:List α)(i:Nat)(h:i+1<(a::l).length),(a::l)[i+1]=l[i]'(Nat.lt_of_succ_lt_succ h):=⟨fun _=>rfl,fun _ _ _=>rfl,fun _ _ _ _=>rfl⟩
theorem sK:(∀{α:Type}{a:α}{l:List α}{i:Nat},(a::l).drop (i+1)=l.drop i)∧(∀{α:Type}{l:List α},l.drop 0=l)∧∀{α:Type}{i:Nat},([]:List α).drop i=[]:=⟨rfl,rfl,by simp⟩
end Go.Proofs.YthaggndnfamhjaaGreatDoor
