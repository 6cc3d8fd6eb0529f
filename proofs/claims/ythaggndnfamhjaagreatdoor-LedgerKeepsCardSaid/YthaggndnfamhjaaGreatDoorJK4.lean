/- Texts, joined. -/
import Derived.Test.YthaggndnfamhjaaGreatDoorJK3

set_option linter.unusedSimpArgs false
set_option linter.unusedVariables false
set_option maxRecDepth 100000
set_option maxHeartbeats 16000000
namespace Go.Proofs.YthaggndnfamhjaaGreatDoor
open Go Go.RowKit
def FxP(P:Program)(ops:Array Oper)(eff:List Nat)(a0:Act)(K:List Value→World→Prop):List Nat→List Nat→List Value→(World→Prop)→(World→Prop)→List Nat→Prop
  |[],_,vs,S,_,_=>∀W,S W→K vs W
  |i::r,os,vs,S,G,gl=>∃o,ops[i]?=some o∧
    ((eff.contains i=false∧∃v,bM P (fun _=>True) ops a0 os vs i o v∧FxP P ops eff a0 K r (i::os) (v::vs) S G gl)∨
     (eff.contains i=false∧∃v,bM P G ops a0 os vs i o v∧FxP P ops eff a0 K r (i::os) (v::vs) S G (i::gl))∨
     (eff.contains i=false∧(r.all fun e=> !eff.contains e||(dJ ops e).contains i)=true∧∃v,bM P S ops a0 os vs i o v∧FxP P ops eff a0 K r (i::os) (v::vs) S G gl)∨
     (eff.contains i=true∧(r.all fun k=>(dJ ops k).contains i)=true∧∃T:Value→World→Prop,jL P S ops a0 os vs i o T∧
       ∃(G':Value→World→Prop) (gl':List Nat),((gl'=gl∧∀v w,T v w→G' v w∧∀W,G' v W→G W)∨(gl'=[]∧(gl.all fun j=>(dJ ops i).contains j)=true∧∀v w,T v w→G' v w))∧∀v w0,T v w0→FxP P ops eff a0 K r (i::os) (v::vs) (T v) (G' v) gl'))
theorem FxP.weak{P:Program}{ops:Array Oper}{eff:List Nat}{a0:Act}{K:List Value→World→Prop}{S S':World→Prop}(hS:∀w,S' w→S w):∀(r os:List Nat) (vs:List Value) (G:World→Prop) (gl:List Nat),FxP P ops eff a0 K r os vs S G gl→FxP P ops eff a0 K r os vs S' G gl
 |[],_,_,_,_,h=>fun W hW=>h W (hS W hW)
 |_::r,os,vs,G,gl,h=>by
  obtain⟨o,ho,h⟩:=h;refine⟨o,ho,?_⟩;rcases h with⟨h1,v,h2,h3⟩|⟨h1,v,h2,h3⟩|⟨h1,h4,v,h2,h3⟩|⟨h1,h2,T,h3,h4⟩
  ·exact .inl ⟨h1,v,h2,FxP.weak hS r _ _ _ _ h3⟩
  ·exact .inr (.inl ⟨h1,v,h2,FxP.weak hS r _ _ _ _ h3⟩)
  ·exact .inr (.inr (.inl ⟨h1,h4,v,h2.weak hS,FxP.weak hS r _ _ _ _ h3⟩))
  exact .inr (.inr (.inr ⟨h1,h2,T,h3.weak hS,h4⟩))
section
variable {P:Program} {ops:Array Oper} {G S S':World→Prop} {gl gl':List Nat} {eff:List Nat} {a0:Act} {K:List Value→World→Prop} {o:Oper} {i:Nat} {r os:List Nat} {vs:List Value} {v:Value} {f:FuncId} {args:Array Value} {j:Nat} {want:Bool}
def fR(ops:Array Oper)(i:Nat)(T G:World→Prop)(gl:List Nat)(G':World→Prop)(gl':List Nat):Prop:=(gl'=gl∧(∀w,T w→G' w)∧∀W,G' W→G W)∨(gl'=[]∧(gl.all fun j=>(dJ ops i).contains j)=true∧∀w,T w→G' w)
theorem fR.stay{T:World→Prop}(h:∀w,T w→G w):fR ops i T G gl G gl:=.inl ⟨rfl,h,fun _ h=>h⟩
theorem fR.new{T G':World→Prop}(hb:(gl.all fun j=>(dJ ops i).contains j)=true)(h:∀w,T w→G' w):fR ops i T G gl G' []:=.inr ⟨rfl,hb,h⟩
theorem BE{T G':World→Prop}(h:fR ops i T G gl G' gl')(u:Value):(gl'=gl∧∀v w,(fun v w=>v=u∧T w) v w→(fun _=>G') v w∧∀W,(fun _=>G') v W→G W)∨(gl'=[]∧(gl.all fun j=>(dJ ops i).contains j)=true∧∀v w,(fun v w=>v=u∧T w) v w→(fun _=>G') v w):=by
 rcases h with⟨h1,h2,h3⟩|⟨h1,h2,h3⟩
 ·exact .inl ⟨h1,fun v w h=>⟨h2 w h.2,h3⟩⟩
 exact .inr ⟨h1,h2,fun v w h=>h3 w h.2⟩
theorem FxP.done(h:∀W,S W→K vs W):FxP P ops eff a0 K [] os vs S G gl:=h
theorem FxP.pure(ho:ops[i]?=some o)(hg:o.guard=none)(he:eff.contains i=false)(h:∀ev w,EvN ops a0 i os vs ev→(execOp ev o).run P w= .ok (.value v) w)(hr:FxP P ops eff a0 K r (i::os) (v::vs) S G gl):FxP P ops eff a0 K (i::r) os vs S G gl:=
 ⟨o,ho,.inl ⟨he,v,by unfold bM;rw[hg];exact fun ev w _=>h ev w,hr⟩⟩
theorem FxP.gpure(m:Nat)(ho:ops[i]?=some o)(hg:o.guard=some (j,want))(he:eff.contains i=false)(hm:os[m]?=some j)(hj:aG vs m= .bool want)(h:∀ev w,EvN ops a0 i os vs ev→(execOp ev o).run P w= .ok (.value v) w)(hr:FxP P ops eff a0 K r (i::os) (v::vs) S G gl):FxP P ops eff a0 K (i::r) os vs S G gl:=
 ⟨o,ho,.inl ⟨he,v,by unfold bM;rw[hg];exact⟨m,hm,fun _ ev w _=>h ev w,fun e=>absurd hj e⟩,hr⟩⟩
theorem FxP.skip(m:Nat)(ho:ops[i]?=some o)(hg:o.guard=some (j,want))(he:eff.contains i=false)(hm:os[m]?=some j)(hj:aG vs m≠ .bool want)(hr:FxP P ops eff a0 K r (i::os) (undef::vs) S G gl):FxP P ops eff a0 K (i::r) os vs S G gl:=
 ⟨o,ho,.inl ⟨he,undef,by unfold bM;rw[hg];exact⟨m,hm,fun e=>absurd e hj,fun _=>rfl⟩,hr⟩⟩
theorem FxP.load(ho:ops[i]?=some o)(hg:o.guard=none)(he:eff.contains i=false)(h:∀ev w,G w→EvN ops a0 i os vs ev→(execOp ev o).run P w= .ok (.value v) w)(hr:FxP P ops eff a0 K r (i::os) (v::vs) S G (i::gl)):FxP P ops eff a0 K (i::r) os vs S G gl:=
 ⟨o,ho,.inr (.inl ⟨he,v,by unfold bM;rw[hg];exact h,hr⟩)⟩
theorem FxP.gload(m:Nat)(ho:ops[i]?=some o)(hg:o.guard=some (j,want))(he:eff.contains i=false)(hm:os[m]?=some j)(hj:aG vs m= .bool want)(h:∀ev w,G w→EvN ops a0 i os vs ev→(execOp ev o).run P w= .ok (.value v) w)(hr:FxP P ops eff a0 K r (i::os) (v::vs) S G (i::gl)):FxP P ops eff a0 K (i::r) os vs S G gl:=
 ⟨o,ho,.inr (.inl ⟨he,v,by unfold bM;rw[hg];exact⟨m,hm,fun _=>h,fun e=>absurd hj e⟩,hr⟩)⟩
theorem FxP.loadS(ho:ops[i]?=some o)(hg:o.guard=none)(he:eff.contains i=false)(hb:(r.all fun e=> !eff.contains e||(dJ ops e).contains i)=true)(h:∀ev w,S w→EvN ops a0 i os vs ev→(execOp ev o).run P w= .ok (.value v) w)(hr:FxP P ops eff a0 K r (i::os) (v::vs) S G gl):FxP P ops eff a0 K (i::r) os vs S G gl:=
 ⟨o,ho,.inr (.inr (.inl ⟨he,hb,v,by unfold bM;rw[hg];exact h,hr⟩))⟩
theorem FxP.callv{G':World→Prop}(ho:ops[i]?=some o)(hg:o.guard=none)(he:eff.contains i=true)(hc:(r.all fun k=>(dJ ops k).contains i)=true)(h:∀ev w,S w→EvN ops a0 i os vs ev→(execOp ev o).run P w= .ok (.enter f args) w)(hk:∀w,S w→Calls P f args w fun e w''=>e= .returned v∧S' w'')(hG:fR ops i S' G gl G' gl')(hr:FxP P ops eff a0 K r (i::os) (v::vs) S' G' gl'):FxP P ops eff a0 K (i::r) os vs S G gl:=
 ⟨o,ho,.inr (.inr (.inr ⟨he,hc,fun u w=>u=v∧S' w,by unfold jL;rw[hg];exact fun ev w hS E=>.inr (.inr ⟨f,args,w,h ev w hS E,(hk w hS).mono fun e w'' he=>⟨v,he.1,rfl,he.2⟩⟩),fun _=>G',gl',BE hG v,fun u w0 hu=>by obtain⟨rfl,_⟩:=hu;exact FxP.weak (fun w h=>h.2) r _ _ _ _ hr⟩))⟩
theorem FxP.call(T:Value→World→Prop)(ho:ops[i]?=some o)(hg:o.guard=none)(he:eff.contains i=true)(hc:(r.all fun k=>(dJ ops k).contains i)=true)(h:∀ev w,S w→EvN ops a0 i os vs ev→(execOp ev o).run P w= .ok (.enter f args) w)(hk:∀w,S w→Calls P f args w fun e w''=>∃v,e= .returned v∧T v w'')(hG:∀v w,T v w→G w)(hr:∀v w0,T v w0→FxP P ops eff a0 K r (i::os) (v::vs) (T v) G gl):FxP P ops eff a0 K (i::r) os vs S G gl:=
 ⟨o,ho,.inr (.inr (.inr ⟨he,hc,T,by unfold jL;rw[hg];exact fun ev w hS E=>.inr (.inr ⟨f,args,w,h ev w hS E,hk w hS⟩),fun _=>G,gl,.inl ⟨rfl,fun v w h=>⟨hG v w h,fun _ h=>h⟩⟩,hr⟩))⟩
theorem FxP.gcall(T:Value→World→Prop)(m:Nat)(ho:ops[i]?=some o)(hg:o.guard=some (j,want))(he:eff.contains i=true)(hm:os[m]?=some j)(hj:aG vs m= .bool want)(hc:(r.all fun k=>(dJ ops k).contains i)=true)(h:∀ev w,S w→EvN ops a0 i os vs ev→(execOp ev o).run P w= .ok (.enter f args) w)(hk:∀w,S w→Calls P f args w fun e w''=>∃v,e= .returned v∧T v w'')(hG:∀v w,T v w→G w)(hr:∀v w0,T v w0→FxP P ops eff a0 K r (i::os) (v::vs) (T v) G gl):FxP P ops eff a0 K (i::r) os vs S G gl:=
 ⟨o,ho,.inr (.inr (.inr ⟨he,hc,T,by unfold jL;rw[hg];exact⟨m,hm,fun _ ev w hS E=>.inr (.inr ⟨f,args,w,h ev w hS E,hk w hS⟩),fun e=>absurd hj e⟩,fun _=>G,gl,.inl ⟨rfl,fun v w h=>⟨hG v w h,fun _ h=>h⟩⟩,hr⟩))⟩
theorem FxP.new(T:Value→World→Prop)(ho:ops[i]?=some o)(hg:o.guard=none)(he:eff.contains i=true)(hc:(r.all fun k=>(dJ ops k).contains i)=true)(h:∀ev w,S w→EvN ops a0 i os vs ev→∃v w',(execOp ev o).run P w= .ok (.value v) w'∧T v w')(hG:∀v w,T v w→G w)(hr:∀v w0,T v w0→FxP P ops eff a0 K r (i::os) (v::vs) (T v) G gl):FxP P ops eff a0 K (i::r) os vs S G gl:=
 ⟨o,ho,.inr (.inr (.inr ⟨he,hc,T,by unfold jL;rw[hg];exact fun ev w hS E=>.inl (h ev w hS E),fun _=>G,gl,.inl ⟨rfl,fun v w h=>⟨hG v w h,fun _ h=>h⟩⟩,hr⟩))⟩
theorem FxP.store{G':World→Prop}(ho:ops[i]?=some o)(hg:o.guard=none)(he:eff.contains i=true)(hc:(r.all fun k=>(dJ ops k).contains i)=true)(h:∀ev w,S w→EvN ops a0 i os vs ev→∃w',(execOp ev o).run P w= .ok .skip w'∧S' w')(hG:fR ops i S' G gl G' gl')(hr:FxP P ops eff a0 K r (i::os) (undef::vs) S' G' gl'):FxP P ops eff a0 K (i::r) os vs S G gl:=
 ⟨o,ho,.inr (.inr (.inr ⟨he,hc,fun u w=>u=undef∧S' w,by unfold jL;rw[hg];exact fun ev w hS E=>.inr (.inl (by obtain⟨w',h1,h2⟩:=h ev w hS E;exact⟨w',h1,rfl,h2⟩)),fun _=>G',gl',BE hG undef,fun u w0 hu=>by obtain⟨rfl,_⟩:=hu;exact FxP.weak (fun w h=>h.2) r _ _ _ _ hr⟩))⟩
theorem FxP.gw{u g:Value}(m:Nat)(ho:ops[i]?=some o)(hg:o.guard=some (j,want))(he:eff.contains i=false)(hm:os[m]?=some j)(hgv:aG vs m=g)(h:g= .bool want→∀ev w,EvN ops a0 i os vs ev→(execOp ev o).run P w= .ok (.value u) w)(hr:FxP P ops eff a0 K r (i::os) (gwV g want u::vs) S G gl):FxP P ops eff a0 K (i::r) os vs S G gl:=
 ⟨o,ho,.inl ⟨he,_,by unfold bM;rw[hg];exact⟨m,hm,fun e ev w _ E=>by rw[hgv] at e;rw[e,bG];exact h e ev w E,fun e=>jS (by rw[←hgv];exact e)⟩,hr⟩⟩
theorem FxP.gwl{u g:Value}(m:Nat)(ho:ops[i]?=some o)(hg:o.guard=some (j,want))(he:eff.contains i=false)(hm:os[m]?=some j)(hgv:aG vs m=g)(h:g= .bool want→∀ev w,G w→EvN ops a0 i os vs ev→(execOp ev o).run P w= .ok (.value u) w)(hr:FxP P ops eff a0 K r (i::os) (gwV g want u::vs) S G (i::gl)):FxP P ops eff a0 K (i::r) os vs S G gl:=
 ⟨o,ho,.inr (.inl ⟨he,_,by unfold bM;rw[hg];exact⟨m,hm,fun e ev w hG E=>by rw[hgv] at e;rw[e,bG];exact h e ev w hG E,fun e=>jS (by rw[←hgv];exact e)⟩,hr⟩)⟩
theorem FxP.gwc{u g:Value}(m:Nat)(ho:ops[i]?=some o)(hg:o.guard=some (j,want))(he:eff.contains i=true)(hm:os[m]?=some j)(hgv:aG vs m=g)(hc:(r.all fun k=>(dJ ops k).contains i)=true)(h:g= .bool want→∀ev w,S w→EvN ops a0 i os vs ev→(execOp ev o).run P w= .ok (.enter f args) w)(hk:g= .bool want→∀w,S w→Calls P f args w fun e w''=>e= .returned u∧S w'')(hG:∀w,S w→G w)(hr:FxP P ops eff a0 K r (i::os) (gwV g want u::vs) S G gl):FxP P ops eff a0 K (i::r) os vs S G gl:=
 ⟨o,ho,.inr (.inr (.inr ⟨he,hc,fun x w=>x=gwV g want u∧S w,by
  unfold jL;rw[hg];exact⟨m,hm,fun e ev w hS E=>.inr (.inr ⟨f,args,w,h (by rw[←hgv];exact e) ev w hS E,(hk (by rw[←hgv];exact e) w hS).mono fun e' w'' he=>⟨u,he.1,by rw[←hgv,e,bG],he.2⟩⟩),fun e w hS=>⟨(jS (by rw[←hgv];exact e)).symm,hS⟩⟩,fun _=>G,gl,.inl ⟨rfl,fun x w h=>⟨hG w h.2,fun _ h=>h⟩⟩,fun x w0 hx=>by obtain⟨rfl,_⟩:=hx;exact FxP.weak (fun w h=>h.2) r _ _ _ _ hr⟩))⟩
theorem FxP.por{a b:Nat}{e d:Bool}(ho:ops[i]?=some o)(hg:o.guard=none)(he:eff.contains i=false)(hop:o.op= .pick (.tmp a) (.const (.bool true)) (.tmp b))(ma ja mb jb:Nat)(hE:([(ma,ja,a),(mb,jb,b)].all (fun x=>os[x.1]? == some x.2.1&&(bE ops x.2.1 == some x.2.2&&cE ops i x.2.1))&&[].all (fF ops))=true)
  (ha:aG vs ma= .bool e) (hb:aG vs mb=gwV (.bool e) false (.bool d)) (hr:FxP P ops eff a0 K r (i::os) (.bool (e||d)::vs) S G gl):FxP P ops eff a0 K (i::r) os vs S G gl:=
 FxP.pure ho hg he (fun ev w E=>by
  obtain⟨h1,h2,h3, -⟩:=E.get _ _ hE;rw[dL hop (h1.trans ha),h3,h2,hb];cases e<;>rfl) hr
theorem FxP.pand{a b:Nat}{e d:Bool}(ho:ops[i]?=some o)(hg:o.guard=none)(he:eff.contains i=false)(hop:o.op= .pick (.tmp a) (.tmp b) (.const (.bool false)))(ma ja mb jb:Nat)(hE:([(ma,ja,a),(mb,jb,b)].all (fun x=>os[x.1]? == some x.2.1&&(bE ops x.2.1 == some x.2.2&&cE ops i x.2.1))&&[].all (fF ops))=true)
  (ha:aG vs ma= .bool e) (hb:aG vs mb=gwV (.bool e) true (.bool d)) (hr:FxP P ops eff a0 K r (i::os) (.bool (e&&d)::vs) S G gl):FxP P ops eff a0 K (i::r) os vs S G gl:=
 FxP.pure ho hg he (fun ev w E=>by
  obtain⟨h1,h2,h3, -⟩:=E.get _ _ hE;rw[dL hop (h1.trans ha),h3,h2,hb];cases e<;>rfl) hr
theorem FxP.gpor{a b:Nat}{e d:Bool}{g:Value}(m:Nat)(ho:ops[i]?=some o)(hg:o.guard=some (j,want))(he:eff.contains i=false)(hm:os[m]?=some j)(hgv:aG vs m=g)(hop:o.op= .pick (.tmp a) (.const (.bool true)) (.tmp b))(ma ja mb jb:Nat)(hE:([(ma,ja,a),(mb,jb,b)].all (fun x=>os[x.1]? == some x.2.1&&(bE ops x.2.1 == some x.2.2&&cE ops i x.2.1))&&[].all (fF ops))=true)
  (ha:aG vs ma=gwV g want (.bool e)) (hb:aG vs mb=gwV (gwV g want (.bool e)) false (.bool d)) (hr:FxP P ops eff a0 K r (i::os) (gwV g want (.bool (e||d))::vs) S G gl):FxP P ops eff a0 K (i::r) os vs S G gl:=by
 refine FxP.gw m ho hg he hm hgv (fun hh ev w E=>?_) hr;obtain⟨h1,h2,h3, -⟩:=E.get _ _ hE;subst hh;rw[bG] at ha hb;rw[dL hop (h1.trans ha),h3,h2,hb];cases e<;>rfl
theorem FxP.gpand{a b:Nat}{e d:Bool}{g:Value}(m:Nat)(ho:ops[i]?=some o)(hg:o.guard=some (j,want))(he:eff.contains i=false)(hm:os[m]?=some j)(hgv:aG vs m=g)(hop:o.op= .pick (.tmp a) (.tmp b) (.const (.bool false)))(ma ja mb jb:Nat)(hE:([(ma,ja,a),(mb,jb,b)].all (fun x=>os[x.1]? == some x.2.1&&(bE ops x.2.1 == some x.2.2&&cE ops i x.2.1))&&[].all (fF ops))=true)
  (ha:aG vs ma=gwV g want (.bool e)) (hb:aG vs mb=gwV (gwV g want (.bool e)) true (.bool d)) (hr:FxP P ops eff a0 K r (i::os) (gwV g want (.bool (e&&d))::vs) S G gl):FxP P ops eff a0 K (i::r) os vs S G gl:=by
 refine FxP.gw m ho hg he hm hgv (fun hh ev w E=>?_) hr;obtain⟨h1,h2,h3, -⟩:=E.get _ _ hE;subst hh;rw[bG] at ha hb;rw[dL hop (h1.trans ha),h3,h2,hb];cases e<;>rfl
end
def ObP(P:Program)(ops:Array Oper)(S G:World→Prop)(gl eff:List Nat)(a0:Act)(suf os:List Nat)(vs:List Value)(j:Nat)(v:Value):Prop:=
 ∃o,ops[j]?=some o∧eff.contains j=false∧(bM P (fun _=>True) ops a0 os vs j o v∨(bM P G ops a0 os vs j o v∧j ∈ gl)∨(bM P S ops a0 os vs j o v∧∀e r,suf=e::r→eff.contains e=true→(dJ ops e).contains j=true))
theorem FxP.adv{P:Program}{ops:Array Oper}{eff:List Nat}{a0:Act}{K:List Value→World→Prop}{S G:World→Prop}:
  ∀(r os:List Nat) (vs:List Value) (gl:List Nat),FxP P ops eff a0 K r os vs S G gl→
   ∃(pre suf:List Nat) (us:List Value) (gm:List Nat),r=pre++suf∧us.length=pre.length∧FxP P ops eff a0 K suf (pre.reverse++os) (us++vs) S G gm∧(∀j ∈ gl,j ∈ gm)∧(∀e t,suf=e::t→eff.contains e=true)∧
    ∀m j,m<pre.length→(pre.reverse++os)[m]?=some j→ObP P ops S G gm eff a0 suf ((pre.reverse++os).drop (m+1)) ((us++vs).drop (m+1)) j (aG (us++vs) m)
 |[],os,vs,gl,h=>⟨[],[],[],gl,rfl,rfl,h,(fun _ h=>h),(fun _ _ h=>by cases h),(fun m j hm=>absurd hm (by simp))⟩
 |i::r,os,vs,gl,h=>by
  cases hc:eff.contains i with
  |true=>exact⟨[],i::r,[],gl,rfl,rfl,h,(fun _ h=>h),(fun e t h=>by injection h with h1;rw[←h1];exact hc),(fun m j hm=>absurd hm (by simp))⟩
  |false=>
   obtain⟨o,ho,h⟩:=h;have key:∃v gl',(bM P (fun _=>True) ops a0 os vs i o v∨(bM P G ops a0 os vs i o v∧i ∈ gl')∨(bM P S ops a0 os vs i o v∧(r.all fun e=> !eff.contains e||(dJ ops e).contains i)=true))∧(∀j ∈ gl,j ∈ gl')∧FxP P ops eff a0 K r (i::os) (v::vs) S G gl':=by
    rcases h with⟨_,v,h1,h2⟩|⟨_,v,h1,h2⟩|⟨_,hb,v,h1,h2⟩|⟨h1,_⟩
    ·exact⟨v,gl,.inl h1,fun _ h=>h,h2⟩
    ·exact⟨v,i::gl,.inr (.inl ⟨h1,by simp⟩),fun _ h=>List.mem_cons_of_mem _ h,h2⟩
    ·exact⟨v,gl,.inr (.inr ⟨h1,hb⟩),fun _ h=>h,h2⟩
    rw[hc] at h1;cases h1
   obtain⟨v,gl',hv,hgl,h2⟩:=key;obtain⟨pre,suf,us,gm,e1,e2,e3,e6,e4,e5⟩:=FxP.adv r (i::os) (v::vs) gl' h2;exact He
theorem cF{P:Program}{ops:Array Oper}{Q:Exit→Act→World→Prop}(G S0:World→Prop){id:Nat}{a0:Act}{w:World}(eff ord:List Nat)(N:Nat)(dsts:List (Option Tmp))(hm:P.follows .mixedOrders=true)(hB:nxB ops ord N=true)(hD:ord.reverse.map (bE ops)=dsts)(hN:N≤a0.tmps.size)(h0:S0 w.drew)(hG:∀W,S0 W→G W)
  (h:FxP P ops eff a0 (fun vs W=>Q .normal (bF dsts vs a0) W) ord [] [] S0 G []):(Code.region id ops true).wp P Q a0 w:=by
 unfold nxB at hB;simp only[Bool.and_eq_true] at hB;obtain⟨hf,hd,hn,hgd,hnd,hlt',hall⟩:=hB;have hnd:=nJ ord hnd;have hordlt:∀j ∈ ord,j<ops.size:=fun j hj=>of_decide_eq_true (List.all_eq_true.1 hlt' j hj);have hord:∀j,j<ops.size→j ∈ ord:=fun j hj=>List.contains_iff_mem.1 (List.all_eq_true.1 hall j (by simpa using hj));have hlt:∀j d,bE ops j=some d→j<ops.size:=by
  intro j d hj;rcases Nat.lt_or_ge j ops.size with h'|h'
  ·exact h'
  unfold bE at hj;rw[Array.getElem?_eq_none h'] at hj;cases hj
 have hdep:∀{i j:Nat} {o:Oper},ops[i]?=some o→cE ops i j=true→∃e ∈ o.after,Region.binds .any e=true∧e.on=j:=by
  intro i j o ho h;unfold cE at h;rw[ho] at h;simp only[Option.map_some,Option.getD_some] at h;rw[Array.any_eq_true'] at h;obtain⟨e,he,h2⟩:=h;rw[Bool.and_eq_true,beq_iff_eq] at h2;exact⟨e,he,h2⟩
 let J:(Nat→Prop)→(Nat→Value)→World→Prop:=fun L ys w=>Clo ops L∧∃(pre suf:List Nat) (vs:List Value) (S G:World→Prop) (gl:List Nat),ord=pre++suf∧vs.length=pre.length∧FxP P ops eff a0 (fun vs W=>Q .normal (bF dsts vs a0) W) suf pre.reverse vs S G gl∧S w∧G w∧
  (∀e t,suf=e::t→eff.contains e=true∧¬L e)∧(∀j,j<ops.size→L j→j ∈ pre)∧(∀m j,pre.reverse[m]?=some j→L j→ys j=aG vs m)∧
  (∀m j,pre.reverse[m]?=some j→¬L j→ObP P ops S G gl eff a0 suf (pre.reverse.drop (m+1)) (vs.drop (m+1)) j (aG vs m))
 have nthV_drop:∀(m:Nat) (l:List Value) (n:Nat),aG (l.drop m) n=aG l (n+m):=by
  intro m;induction m with
  |zero=>intro l n;rfl
  |succ m ih=>
   intro l n;cases l with
   |nil=>simp[aG]
   |cons a r=>rw[List.drop_succ_cons,ih];rfl
 refine iH J (fun ys=>aZ ops ys ops.size a0) hm hd hf (fun _=>rfl) ?_ ?_ ?_
 ·intro ys;obtain⟨pre,suf,us,gm,e1,e2,e3,_,e4,e5⟩:=FxP.adv ord [] [] [] h;rw[List.append_nil] at e3;rw[List.append_nil] at e3;refine⟨fun _ _ _ h=>h.elim,pre,suf,us,S0,G,gm,e1,e2,e3,h0,hG _ h0,fun e t he=>⟨e4 e t he,fun h=>h⟩,fun j _ h=>h.elim,fun m j _ h=>h.elim,fun m j hj _=>?_⟩;have hm:m<pre.length:=by
   have:=(List.getElem?_eq_some_iff.1 hj).1;simpa using this
  have:=e5 m j hm (by rw[List.append_nil];exact hj);simp only[List.append_nil] at this;exact this
 ·rintro L ys w i ⟨hC,pre,suf,vs,S,G,gl,e1,e2,hT,hS,hGw,hhd,hLp,hys,hob⟩ hi hL hdp;obtain⟨o,ho⟩:∃o,ops[i]?=some o:=⟨ops[i],by simp[hi]⟩;have hdj:∀j,cE ops i j=true→L j:=fun j hj=>by
   obtain⟨e,he,hb,hej⟩:=hdep ho hj;rw[←hej];exact hdp o ho e he hb
  have hC':Clo ops (fun k=>L k∨k=i):=fun a b hab h=>by
   rcases h with h|h
   ·exact .inl (hC a b hab h)
   subst h;exact .inl (hdj b hab)
  have hin:∀j d,bE ops j=some d→d<a0.tmps.size:=by
   exact DJ
  have hev:∀(os':List Nat) (vs':List Value),(∀m j,os'[m]?=some j→L j→ys j=aG vs' m)→EvN ops a0 i os' vs' (aZ ops ys ops.size a0).eval:=fun os' vs' hov=>
   ⟨fun _=>rfl,fun _=>rfl,fun _=>rfl,fun m j d hm hj hdb=>by rw[kL ops ys hd j d hj ops.size a0 (hlt j d hj) (hin j d hj)];exact hov m j hm (hdj j hdb),fun t ht=>jR ops ys t ops.size a0 (fun j hj=>by
    unfold fF at ht;have:=List.all_eq_true.1 ht j (by simpa using hj);simpa using this)⟩
  have hdst:bE ops i=o.dst:=by unfold bE;rw[ho];rfl
  have hguard:∀j want,o.guard=some (j,want)→(yielded ops (aZ ops ys ops.size a0).tmps j=some want↔ys j= .bool want)∧L j:=by
   intro j want hgu;have hdj2:cE ops i j=true∧(bE ops j).isSome=true:=by
    have:=List.all_eq_true.1 hgd i (by simpa using hi);rw[ho] at this;simp only[Option.bind_some,hgu,Bool.and_eq_true] at this;exact this
   refine⟨?_,hdj j hdj2.1⟩;unfold yielded;cases hdd:bE ops j with
   |none=>
    have:=hdj2.2;rw[hdd] at this;cases this
   |some d=>
    have hb:(ops[j]?).bind (·.dst)=some d:=hdd;have he:(aZ ops ys ops.size a0).eval (.tmp d)=ys j:=kL ops ys hd j d hdd ops.size a0 (hlt j d hdd) (hin j d hdd);have hs:d<(aZ ops ys ops.size a0).tmps.size:=by rw[iQ];exact hin j d hdd
    rw[hb];simp only[Option.bind_some,Array.getElem?_eq_getElem hs];have:(aZ ops ys ops.size a0).tmps[d]=ys j:=by
     rw[←he];simp[Act.eval,Array.getD,hs]
    rw[this];cases ys j<;>simp
  by_cases hip:i ∈ pre
  ·
   obtain⟨m,hm⟩:=List.getElem?_of_mem (List.mem_reverse.2 hip);obtain⟨o',ho',hne,hst⟩:=hob m i hm hL;rw[ho] at ho';injection ho' with ho'
   subst ho';have hov:∀m' j,(pre.reverse.drop (m+1))[m']?=some j→L j→ys j=aG (vs.drop (m+1)) m':=fun m' j hj hl=>by
    rw[List.getElem?_drop] at hj;rw[nthV_drop,Nat.add_comm];exact hys _ j hj hl
   have hE:=hev _ _ hov;have hJ:J (fun k=>L k∨k=i) (cX ys i (aG vs m)) w:=by
    refine⟨hC',pre,suf,vs,S,G,gl,e1,e2,hT,hS,hGw,fun e t he=>⟨(hhd e t he).1,fun h=>?_⟩,fun j hj h=>?_,fun m' j hj h=>?_,fun m' j hj h=>hob m' j hj (fun h'=>h (.inl h'))⟩
    ·rcases h with h|h
     ·exact(hhd e t he).2 h
     subst h;rw[(hhd e t he).1] at hne;cases hne
    ·rcases h with h|h
     ·exact hLp j hj h
     subst h;exact hip
    unfold cX;by_cases e:j=i
    ·rw[if_pos e];subst e;have hnr:pre.reverse.Nodup:=by
      have:(pre++suf).Nodup:=e1▸hnd;exact rC (List.nodup_append.1 this).1
     have:m=m':=by
      obtain⟨h1,h2⟩:=List.getElem?_eq_some_iff.1 hm;obtain⟨h3,h4⟩:=List.getElem?_eq_some_iff.1 hj;exact(List.getElem_inj hnr).1 (h2.trans h4.symm)
     rw[this]
    rw[if_neg e];exact hys m' j hj (h.resolve_right e)
   have hrun:Region.wanted o (yielded ops (aZ ops ys ops.size a0).tmps)=true→(execOp (aZ ops ys ops.size a0).eval o).run P w= .ok (.value (aG vs m)) w:=by
    intro hw;have both:∀Pre:World→Prop,Pre w→bM P Pre ops a0 (pre.reverse.drop (m+1)) (vs.drop (m+1)) i o (aG vs m)→(execOp (aZ ops ys ops.size a0).eval o).run P w= .ok (.value (aG vs m)) w:=by
     intro Pre hP hst;unfold bM at hst;cases hgu:o.guard with
     |none=>rw[hgu] at hst;exact hst _ w hP hE
     |some jw=>
      obtain⟨j,want⟩:=jw;rw[hgu] at hst;obtain⟨m',hm',hs1,_⟩:=hst;obtain⟨hy,hLj⟩:=hguard j want hgu;refine hs1 ?_ _ w hP hE;rw[←hov m' j hm' hLj];refine hy.1 ?_;unfold Region.wanted at hw;rw[hgu] at hw;simpa using hw
    rcases hst with hst|⟨hst,_⟩|⟨hst,_⟩
    ·exact both _ trivial hst
    ·exact both G hGw hst
    exact both S hS hst
   have hund:Region.wanted o (yielded ops (aZ ops ys ops.size a0).tmps)=false→aG vs m=undef:=by
    intro hw;have both:∀Pre:World→Prop,bM P Pre ops a0 (pre.reverse.drop (m+1)) (vs.drop (m+1)) i o (aG vs m)→aG vs m=undef:=by
     intro Pre hst;unfold bM at hst;cases hgu:o.guard with
     |none=>unfold Region.wanted at hw;rw[hgu] at hw;cases hw
     |some jw=>
      obtain⟨j,want⟩:=jw;rw[hgu] at hst;obtain⟨m',hm',_,hs2⟩:=hst;obtain⟨hy,hLj⟩:=hguard j want hgu;refine hs2 fun hh=>?_;rw[←hov m' j hm' hLj] at hh;unfold Region.wanted at hw;rw[hgu] at hw;simp only[hy.2 hh] at hw;simp at hw
    rcases hst with hst|⟨hst,_⟩|⟨hst,_⟩
    ·exact both _ hst
    ·exact both G hst
    exact both S hst
   unfold wpOp;simp only[ho];cases hw:Region.wanted o (yielded ops (aZ ops ys ops.size a0).tmps) with
   |true=>
    rw[if_pos rfl];refine .inl ?_;unfold Oper.wp;rw[hrun hw,Oper.upon_value];exact⟨_,by rw[hdst],hJ⟩
   |false=>
    rw[if_neg (by simp)];refine⟨aG vs m,?_,hJ⟩;rw[hdst,hund hw]
  
  have his:i ∈ suf:=by
   have:=hord i hi;rw[e1] at this;exact(List.mem_append.1 this).resolve_left hip
  cases suf with
  |nil=>cases his
  |cons e t=>
   obtain⟨hee,heL⟩:=hhd e t rfl;obtain⟨o1,ho1,hnode⟩:=hT;have hnode:(t.all fun k=>(dJ ops k).contains e)=true∧∃T:Value→World→Prop,jL P S ops a0 pre.reverse vs e o1 T∧∃(G':Value→World→Prop) (gl':List Nat),((gl'=gl∧∀v w,T v w→G' v w∧∀W,G' v W→G W)∨(gl'=[]∧(gl.all fun j=>(dJ ops e).contains j)=true∧∀v w,T v w→G' v w))∧∀v w0,T v w0→FxP P ops eff a0 (fun vs W=>Q .normal (bF dsts vs a0) W) t (e::pre.reverse) (v::vs) (T v) (G' v) gl':=by
    rcases hnode with⟨h1,_⟩|⟨h1,_⟩|⟨h1,_⟩|⟨_,h2,h3⟩
    ·rw[hee] at h1;cases h1
    ·rw[hee] at h1;cases h1
    ·rw[hee] at h1;cases h1
    exact⟨h2,h3⟩
   obtain⟨hanc,T,hEff,G',gl',hTG,hnext⟩:=hnode;have hie:i=e:=by
    rcases List.mem_cons.1 his with h'|h'
    ·exact h'
    exfalso;rcases lN hC hdj (List.all_eq_true.1 hanc i h') with h3|h3
    ·exact heL h3
    subst h3;have:(pre++(e::t)).Nodup:=e1▸hnd;have:=(List.nodup_cons.1 (List.nodup_append.1 this).2.1).1;exact this h'
   subst hie;rw[ho] at ho1;injection ho1 with ho1
   subst ho1;have hE:=hev pre.reverse vs (fun m j hm hl=>hys m j hm hl);have hpost:∀v w',T v w'→∃v',(aZ ops ys ops.size a0).put (bE ops i) v=(aZ ops ys ops.size a0).put (bE ops i) v'∧J (fun k=>L k∨k=i) (cX ys i v') w':=by
    intro v w' hTv;refine⟨v,rfl,hC',?_⟩;obtain⟨pre2,suf2,us,gm,f1,f2,f3,f6,f4,f5⟩:=FxP.adv t (i::pre.reverse) (v::vs) gl' (hnext v w' hTv);have hGw':G' v w':=by
     rcases hTG with⟨_,hh⟩|⟨_,_,hh⟩
     ·exact(hh v w' hTv).1
     exact hh v w' hTv
    have hrev:(pre++i::pre2).reverse=pre2.reverse++(i::pre.reverse):=by simp
    have hord2:ord=(pre++i::pre2)++suf2:=by rw[e1,f1];simp
    have hnod:((pre++i::pre2)++suf2).Nodup:=hord2▸hnd;have hnotpre2:∀j,j ∈ pre2→¬(L j∨j=i):=by
     intro j hj h;have hjlt:j<ops.size:=hordlt j (by rw[hord2];simp[hj]);have hn1:(pre++i::pre2).Nodup:=(List.nodup_append.1 hnod).1;have hn2:=List.nodup_append.1 hn1;rcases h with h|h
     ·exact hn2.2.2 j (hLp j hjlt h) j (by simp[hj]) rfl
     subst h;exact(List.nodup_cons.1 hn2.2.1).1 hj
    refine⟨pre++i::pre2,suf2,us++(v::vs),T v,G' v,gm,hord2,by simp[f2,e2];omega,by rw[hrev];exact f3,hTv,hGw',fun e2' t2 he2=>⟨f4 e2' t2 he2,fun h=>?_⟩,fun j hj h=>?_,fun m j hm h=>?_,fun m j hm h=>?_⟩
    ·have hes:e2' ∈ suf2:=by rw[he2];simp
     have hd3:=(List.nodup_append.1 hnod).2.2;rcases h with h|h
     ·have:e2'<ops.size:=hordlt e2' (by rw[hord2];simp[hes]);exact hd3 e2' (by simp[hLp e2' this h]) e2' hes rfl
     subst h;exact hd3 e2' (by simp) e2' hes rfl
    ·rcases h with h|h
     ·simp[hLp j hj h]
     subst h;simp
    ·rw[hrev] at hm;rcases Nat.lt_or_ge m pre2.length with h'|h'
     ·rw[List.getElem?_append_left (by simpa using h')] at hm;exact absurd h (hnotpre2 j (List.mem_reverse.1 (List.mem_of_getElem? hm)))
     rw[List.getElem?_append_right (by simpa using h')] at hm;have hsp:∀(us:List Value) (k:Nat),aG (us++(v::vs)) (us.length+k)=aG (v::vs) k:=by
      intro us;induction us with
      |nil=>intro k;rw[List.nil_append,List.length_nil,Nat.zero_add]
      |cons x tl ih=>intro k;rw[List.length_cons,show tl.length+1+k=(tl.length+k)+1 by omega];exact ih k
     obtain⟨k,hk⟩:∃k,m=us.length+k:=⟨m - us.length,by omega⟩;rw[hk,hsp];rw[hk,List.length_reverse,←f2,Nat.add_sub_cancel_left] at hm;cases k with
     |zero=>
      simp at hm;subst hm;unfold cX;rw[if_pos rfl];rfl
     |succ k=>
      have hm:pre.reverse[k]?=some j:=by simpa using hm
      have hjp:j ∈ pre:=List.mem_reverse.1 (List.mem_of_getElem? hm);have hji:j≠i:=fun e=>hip (e▸hjp);unfold cX;rw[if_neg hji];exact hys k j hm (h.resolve_right hji)
    have hm0:=hm;rw[hrev] at hm ⊢;rcases Nat.lt_or_ge m pre2.length with h'|h'
    ·exact f5 m j h' hm
    
    rw[List.getElem?_append_right (by simpa using h')] at hm;obtain⟨k,hk⟩:∃k,m=pre2.length+k:=⟨m - pre2.length,by omega⟩;subst hk;rw[List.length_reverse,Nat.add_sub_cancel_left] at hm;cases k with
    |zero=>
     simp at hm;subst hm;exact absurd (.inr rfl) h
    |succ k=>
     have hm:pre.reverse[k]?=some j:=by simpa using hm
     obtain⟨o2,ho2,hne2,hst2⟩:=hob k j hm (fun hl=>h (.inl hl));have hd1:(pre2.reverse++(i::pre.reverse)).drop (pre2.length+(k+1)+1)=pre.reverse.drop (k+1):=by
      rw[show pre2.length+(k+1)+1=(pre2.reverse++[i]).length+(k+1) by simp;omega,show pre2.reverse++(i::pre.reverse)=(pre2.reverse++[i])++pre.reverse by simp,←List.drop_drop,List.drop_left]
     have hd2:(us++(v::vs)).drop (pre2.length+(k+1)+1)=vs.drop (k+1):=by
      rw[←f2,show us.length+(k+1)+1=(us++[v]).length+(k+1) by simp;omega,show us++(v::vs)=(us++[v])++vs by simp,←List.drop_drop,List.drop_left]
     have hnv:aG (us++(v::vs)) (pre2.length+(k+1))=aG vs k:=by
      have:=nthV_drop (us.length+1) (us++(v::vs)) k;rw[show(us++(v::vs)).drop (us.length+1)=vs by rw[show us.length+1=(us++[v]).length by simp,show us++(v::vs)=(us++[v])++vs by simp,List.drop_left]] at this;rw[this,←f2,show k+(us.length+1)=us.length+(k+1) by omega]
     rw[hd1,hd2,hnv];refine⟨o2,ho2,hne2,?_⟩;rcases hst2 with hst2|⟨hst2,hjg⟩|⟨_,hst2⟩
     ·exact .inl hst2
     ·rcases hTG with⟨hg1,hg2⟩|⟨_,hg2,_⟩
      ·exact .inr (.inl ⟨hst2.weak (hg2 v w' hTv).2,f6 j (hg1▸hjg)⟩)
      exfalso;rcases lN hC hdj (List.all_eq_true.1 hg2 j hjg) with h7|h7
      ·exact h (.inl h7)
      exact h (.inr h7)
     exfalso;have h6:=hst2 i t rfl hee;rcases lN hC hdj h6 with h7|h7
     ·exact h (.inl h7)
     exact h (.inr h7)
   have hrunE:Gb P o (aZ ops ys ops.size a0).eval w T→Oper.wp P o (aZ ops ys ops.size a0) w (fun a' w'=>∃v,a'=(aZ ops ys ops.size a0).put (bE ops i) v∧J (fun k=>L k∨k=i) (cX ys i v) w') Q:=by
    intro hE2;unfold Oper.wp;rcases hE2 with⟨v,w',hr,hTv⟩|⟨w',hr,hTv⟩|⟨f,args,w',hr,hc⟩
    ·rw[hr,Oper.upon_value,←hdst];obtain⟨v',h1,h2⟩:=hpost v w' hTv;exact⟨v',h1,h2⟩
    ·rw[hr,Oper.upon_skip,←hdst];obtain⟨v',h1,h2⟩:=hpost undef w' hTv;exact⟨v',h1,h2⟩
    rw[hr,Oper.upon_enter];refine hc.mono ?_;rintro ee w'' ⟨v,rfl,hTv⟩;simp only;rw[←hdst];obtain⟨v',h1,h2⟩:=hpost v w'' hTv;exact⟨v',h1,h2⟩
   unfold jL at hEff;unfold wpOp;simp only[ho];cases hgu:o.guard with
   |none=>
    rw[hgu] at hEff;rw[if_pos (by unfold Region.wanted;rw[hgu])];exact .inl (hrunE (hEff _ w hS hE))
   |some jw=>
    obtain⟨j,want⟩:=jw;rw[hgu] at hEff;obtain⟨m',hm',hs1,hs2⟩:=hEff;obtain⟨hy,hLj⟩:=hguard j want hgu;have hyv:=hys m' j hm' hLj;by_cases hv:aG vs m'= .bool want
    ·rw[if_pos (by unfold Region.wanted;rw[hgu];simp only;rw[hy.2 (hyv.trans hv)];simp)];exact .inl (hrunE (hs1 hv _ w hS hE))
    have hw:Region.wanted o (yielded ops (aZ ops ys ops.size a0).tmps)=false:=by
     unfold Region.wanted;rw[hgu];simp only;rw[beq_eq_false_iff_ne];exact fun h=>hv (hyv▸hy.1 h)
    rw[if_neg (by rw[hw];simp)];obtain⟨v',h1,h2⟩:=hpost undef w (hs2 hv w hS);rw[←hdst];exact⟨v',h1,h2⟩
 rintro L ys w ⟨hC,pre,suf,vs,S,G,gl,e1,e2,hT,hS,hGw,hhd,hLp,hys,hob⟩ hL;cases suf with
 |cons e t=>
  exact absurd (hL e (hordlt e (by rw[e1];simp))) (hhd e t rfl).2
 |nil=>
  have hpo:ord=pre:=by rw[e1];simp
  have hnr:pre.reverse.Nodup:=rC (hpo▸hnd);obtain⟨y0,hy0⟩:∃y0,aZ ops y0 ops.size a0=a0:=⟨_,kK ops a0 ops.size⟩;have h1:=uZ hd a0 y0 pre.reverse vs (by simp[e2]) (fun j hj=>hordlt j (by rw[hpo];exact List.mem_reverse.1 hj));rw[hy0] at h1;have h2:aZ ops ys ops.size a0=bF dsts vs a0:=by
   rw[←hD,hpo,h1];refine gM ops ops.size a0 fun j hj=>?_;have hjp:j ∈ pre.reverse:=List.mem_reverse.2 (hpo▸hord j hj);obtain⟨m,hm⟩:=List.getElem?_of_mem hjp;rw[yK pre.reverse vs _ m j hnr (by simp[e2]) hm];exact hys m j hm (hL j hj)
  show Q .normal (aZ ops ys ops.size a0) w;rw[h2];exact hT w hS
def BF(ops:Array Oper)(i:Nat)(os:List Nat)(l:List (Nat × Nat × Nat))(q:List Nat):Bool:=l.all (fun x=>os[x.1]? == some x.2.1&&(bE ops x.2.1 == some x.2.2&&cE ops i x.2.1))&&q.all (fF ops)
section
variable {P:Program} {ops:Array Oper} {G S C:World→Prop} {gl:List Nat} {eff:List Nat} {a0:Act} {K:List Value→World→Prop} {o:Oper} {i:Nat} {r os:List Nat} {vs:List Value} {v u g:Value} {j:Nat} {want:Bool}
theorem FxP.p(l:List (Nat × Nat × Nat))(q:List Nat)(hr:FxP P ops eff a0 K r (i::os) (v::vs) S G gl)(ho:ops[i]?=some o:=by rfl)(hg:o.guard=none:=by rfl)(he:eff.contains i=false:=by rfl)(hE:BF ops i os l q=true:=by kernel_rfl)(h:∀ev w,evT ev vs l (evU ev a0 q (evC ev))→(execOp ev o).run P w= .ok (.value v) w:=by(intro ev w E;simp only[evT,evU,evC,aG] at E;go_simp;try with_reducible rfl)):FxP P ops eff a0 K (i::r) os vs S G gl:=
 FxP.pure ho hg he (fun ev w E=>h ev w (E.get l q hE)) hr
theorem FxP.gp(m:Nat)(l:List (Nat × Nat × Nat))(q:List Nat)(hr:FxP P ops eff a0 K r (i::os) (v::vs) S G gl)(ho:ops[i]?=some o:=by rfl)(hg:o.guard=some (j,want):=by rfl)(hm:os[m]?=some j:=by rfl)(hj:aG vs m= .bool want:=by rfl)(he:eff.contains i=false:=by rfl)(hE:BF ops i os l q=true:=by kernel_rfl)(h:∀ev w,evT ev vs l (evU ev a0 q (evC ev))→(execOp ev o).run P w= .ok (.value v) w:=by(intro ev w E;simp only[evT,evU,evC,aG] at E;go_simp;try with_reducible rfl)):FxP P ops eff a0 K (i::r) os vs S G gl:=
 FxP.gpure m ho hg he hm hj (fun ev w E=>h ev w (E.get l q hE)) hr
theorem FxP.q(HF:∀w,G w→C w)(l:List (Nat × Nat × Nat))(q:List Nat)(hr:FxP P ops eff a0 K r (i::os) (v::vs) S G (i::gl))(ho:ops[i]?=some o:=by rfl)(hg:o.guard=none:=by rfl)(he:eff.contains i=false:=by rfl)(hE:BF ops i os l q=true:=by kernel_rfl)(h:∀ev w,C w→evT ev vs l (evU ev a0 q (evC ev))→(execOp ev o).run P w= .ok (.value v) w:=by(intro ev w hC E;(try dsimp only at hC);simp only[evT,evU,evC,aG] at E;go_simp;try with_reducible rfl)):FxP P ops eff a0 K (i::r) os vs S G gl:=
 FxP.load ho hg he (fun ev w hS E=>h ev w (HF w hS) (E.get l q hE)) hr
theorem FxP.gq(HF:∀w,G w→C w)(m:Nat)(l:List (Nat × Nat × Nat))(q:List Nat)(hr:FxP P ops eff a0 K r (i::os) (v::vs) S G (i::gl))(ho:ops[i]?=some o:=by rfl)(hg:o.guard=some (j,want):=by rfl)(hm:os[m]?=some j:=by rfl)(hj:aG vs m= .bool want:=by rfl)(he:eff.contains i=false:=by rfl)(hE:BF ops i os l q=true:=by kernel_rfl)(h:∀ev w,C w→evT ev vs l (evU ev a0 q (evC ev))→(execOp ev o).run P w= .ok (.value v) w:=by(intro ev w hC E;(try dsimp only at hC);simp only[evT,evU,evC,aG] at E;go_simp;try with_reducible rfl)):FxP P ops eff a0 K (i::r) os vs S G gl:=
 FxP.gload m ho hg he hm hj (fun ev w hS E=>h ev w (HF w hS) (E.get l q hE)) hr
theorem FxP.s(HF:∀w,S w→C w)(l:List (Nat × Nat × Nat))(q:List Nat)(hr:FxP P ops eff a0 K r (i::os) (v::vs) S G gl)(ho:ops[i]?=some o:=by rfl)(hg:o.guard=none:=by rfl)(he:eff.contains i=false:=by rfl)(hb:(r.all fun e=> !eff.contains e||(dJ ops e).contains i)=true:=by kernel_rfl)(hE:BF ops i os l q=true:=by kernel_rfl)(h:∀ev w,C w→evT ev vs l (evU ev a0 q (evC ev))→(execOp ev o).run P w= .ok (.value v) w:=by(intro ev w hC E;(try dsimp only at hC);simp only[evT,evU,evC,aG] at E;go_simp;try with_reducible rfl)):FxP P ops eff a0 K (i::r) os vs S G gl:=
 FxP.loadS ho hg he hb (fun ev w hS E=>h ev w (HF w hS) (E.get l q hE)) hr
end
end Go.Proofs.YthaggndnfamhjaaGreatDoor
namespace Go.Proofs.YthaggndnfamhjaaGreatDoor
open Go.RowKit
theorem lR{α:Type}(R:Rec α)(u:Value)(y:α)(j:Nat)(hj:j<R.sz):∀(l:List α) (k:Nat) (hk:k<l.length),(R.enc l[k]).set j u=R.enc y→(flR R l).set (k*R.sz+j) u=flR R (l.set k y)
 |x::r,0,_,h=>by
  have h:(R.enc x).set j u=R.enc y:=h;rw[gG,Nat.zero_mul,Nat.zero_add,List.set_append_left _ _ (by rw[R.len];exact hj),h];rfl
 |x::r,k+1,hk,h=>by
  have e:(k+1)*R.sz+j - (R.enc x).length=k*R.sz+j:=by rw[R.len,Nat.succ_mul];omega
  rw[gG,List.set_append_right _ _ (by rw[R.len,Nat.succ_mul];omega),e,lR R u y j hj r k (by simpa using hk) (by simpa using h)];rfl
theorem jU{w:World}{base:Nat}{e:TypeId}{size b n c:Nat}{xs:List Value}(h:w.ownsRow base e size (.slice (some ⟨b,0,none⟩) n c) n xs)(i:Nat)(u:Value):
  (w.setCell ⟨b,i,none⟩ u).ownsRow base e size (.slice (some ⟨b,0,none⟩) n c) n (xs.set i u):=by
 obtain⟨hl,h2⟩:=h;refine⟨by simpa using hl,.inr ?_⟩;rcases h2 with⟨h,_⟩|⟨g,cap,cur,e1,hg,hh,hnc,hm,hs,ht⟩
 ·cases h
 injection e1 with e1 _ e3
 injection e1 with e1
 injection e1 with e1
 subst e1 e3;refine⟨b,c,_,rfl,hg,aI hh i u,hnc,hm,by simpa using hs,?_⟩;rw[Array.toList_setIfInBounds,List.take_set,ht]
theorem aY{w:World}{base:Nat}{e:TypeId}{size b n c:Nat}{xs:List Value}(h:w.ownsRow base e size (.slice (some ⟨b,0,none⟩) n c) n xs):(∀i,w.frozen? ⟨b,i,none⟩=false)∧(∀i u,xs[i]?=some u→w.cell? ⟨b,i,none⟩=some u)∧b<w.heap.size∧base≤b∧n≤c∧c≤maxLen:=by
 obtain⟨hl,h2⟩:=h;rcases h2 with⟨h,_⟩|⟨g,cap,cur,e1,hg,hh,hnc,hm,hs,ht⟩
 ·cases h
 injection e1 with e1 _ e3
 injection e1 with e1
 injection e1 with e1
 subst e1 e3;refine⟨fun i=>aB hh i,fun i u hu=>?_,aC hh,hg,hnc,hm⟩;rw[aA hh i,←Array.getElem?_toList];rw[←ht,List.getElem?_take] at hu;split at hu
 ·exact hu
 cases hu
theorem dZ{w:World}{base:Nat}{e:TypeId}{size n c:Nat}{A:Option Addr}{xs:List Value}(h:w.ownsRow base e size (.slice A n c) n xs)(hn:0<n):∃b,A=some ⟨b,0,none⟩:=by
 rcases h.2 with⟨_,h0⟩|⟨g,cap,cur,e1,_⟩
 ·omega
 injection e1 with e1 _ _
 exact⟨g,e1⟩
theorem jA{w:World}{base:Nat}{e:TypeId}{size n c:Nat}{A:Option Addr}{xs:List Value}(h:w.ownsRow base e size (.slice A n c) n xs):n≤c∧c≤9223372036854775807:=by
 rcases h.2 with⟨h1,h0⟩|⟨g,cap,cur,e1,_,_,h1,h2,_⟩
 ·injection h1 with _ _ h1;omega
 injection e1 with _ _ e1
 unfold maxLen at h2;omega
theorem jB{w:World}{b b':Nat}{e:TypeId}{size n:Nat}{v:Value}{xs:List Value}(h:w.ownsRow b e size v n xs)(hb:b'≤b):w.ownsRow b' e size v n xs:=by
 refine⟨h.1,?_⟩;rcases h.2 with h0|⟨g,cap,cur,hv,hg,rest⟩
 ·exact .inl h0
 exact .inr ⟨g,cap,cur,hv,by omega,rest⟩
theorem tB{w w':World}(e:TypeId)(size B:Nat)(hB:B≤w.heap.size)(hw:w'=w.alloc (.cells #[] e)):w'.ownsRow B e size (.slice (some ⟨w.heap.size,0,none⟩) 0 0) 0 []:=by
 subst hw;exact⟨by simp,.inr ⟨w.heap.size,0,#[],rfl,hB,heap_alloc_new w _,Nat.le_refl _,by unfold maxLen;omega,by simp,by simp⟩⟩
theorem BG{w w':World}{base:Nat}{e:TypeId}{size n:Nat}{v:Value}{xs:List Value}{r:Option Nat}(h:w.ownsRow base e size v n xs)(f:Fr r w w')(hr:∀b,v.ownBlock=some b→r≠some b):w'.ownsRow base e size v n xs:=by
 refine h.kept f ?_;cases hv:v.ownBlock with
 |none=>exact .inl rfl
 |some k=>exact .inr fun e=>hr k hv e.symm
theorem lS{w:World}{b:Nat}{v0 v1 v2 v3 v4 v5 v6:Value}{T:TypeId}(h:w.heap[b]?=some (.cells #[v0,v1,v2,v3,v4,v5,v6] T (0,0))):w.cell? ⟨b,0,none⟩=some v0∧w.cell? ⟨b,1,none⟩=some v1∧w.cell? ⟨b,2,none⟩=some v2∧w.cell? ⟨b,3,none⟩=some v3∧w.cell? ⟨b,4,none⟩=some v4∧w.cell? ⟨b,5,none⟩=some v5∧w.cell? ⟨b,6,none⟩=some v6:=by
 refine⟨?_,?_,?_,?_,?_,?_,?_⟩<;>(rw[aA h];rfl)
def lB(out:Int)(l:List Int):Int × Int:=if(l++[out]).all aX=true then(out,0) else(0,65)
def lX(a b:Int):Int × Int:=lB (a+b) [a,b]
def An(n num den more:Int):Int × Int:=if aX n=true∧bX num den=true then lB ((n*num+more)/den) [] else(0,65)
def upN(n num den:Int):Int × Int:=An n num den (den - 1)
theorem lY{α:Type}{f:Option α→α→Bool}{ok1:α→Bool}{lt:α→α→Bool}(hf:∀b x,f b x=(ok1 x&&(match b with|some b=>lt b x|none=>true)))(ht:∀a b c,lt a b=true→lt b c=true→lt a c=true):∀(l:List α) (b:Option α),bV f b l=true↔((∀x ∈ l,ok1 x=true)∧l.Pairwise (fun a b=>lt a b=true)∧∀c,b=some c→∀x ∈ l,lt c x=true)
 |[],b=>by simp[bV]
 |x::r,b=>by
  unfold bV;rw[Bool.and_eq_true,lY hf ht r (some x),hf,Bool.and_eq_true];constructor
  ·rintro⟨⟨h1,h2⟩,h3,h4,h5⟩;refine⟨fun y hy=>?_,List.pairwise_cons.2 ⟨fun y hy=>h5 x rfl y hy,h4⟩,fun c hc y hy=>?_⟩
   ·rcases List.mem_cons.1 hy with rfl|hy
    ·exact h1
    exact h3 y hy
   subst hc;rcases List.mem_cons.1 hy with rfl|hy
   ·exact h2
   exact ht _ _ _ h2 (h5 x rfl y hy)
  rintro⟨h1,h2,h3⟩;obtain⟨h4,h5⟩:=List.pairwise_cons.1 h2;refine⟨⟨h1 x (List.mem_cons_self ..),?_⟩,fun y hy=>h1 y (List.mem_cons_of_mem _ hy),h5,fun c hc y hy=>?_⟩
  ·cases b with
   |none=>rfl
   |some c=>exact h3 c rfl x (List.mem_cons_self ..)
  injection hc with hc
  subst hc;exact h4 y hy
theorem nK:∀{a b c:List UInt8},Op.bytesLess a b=true→Op.bytesLess b c=true→Op.bytesLess a c=true
 |[],[],_,h,_=>by simp[Op.bytesLess] at h
 |[],_::_,[],_,h=>by simp[Op.bytesLess] at h
 |[],_::_,_::_,_,_=>by simp[Op.bytesLess]
 |_::_,[],_,h,_=>by simp[Op.bytesLess] at h
 |_::_,_::_,[],_,h=>by simp[Op.bytesLess] at h
 |x::a,y::b,z::c,h1,h2=>by
  have ih:=@nK a b c;simp only[Op.bytesLess,Bool.or_eq_true,Bool.and_eq_true,decide_eq_true_eq,beq_iff_eq] at h1 h2 ⊢;rcases h1 with h1|⟨rfl,h1⟩
  ·rcases h2 with h2|⟨rfl,h2⟩
   ·exact .inl (UInt8.lt_trans h1 h2)
   exact .inl h1
  rcases h2 with h2|⟨rfl,h2⟩
  ·exact .inl h2
  exact .inr ⟨rfl,ih h1 h2⟩
theorem nL{a b c:Ast}(h1:eK a b=true)(h2:eK b c=true):eK a c=true:=by
 unfold eK ltL at*
 simp only[Bool.or_eq_true,Bool.and_eq_true,decide_eq_true_eq] at*
 rcases h1 with h1|⟨e1,h1⟩
 ·rcases h2 with h2|⟨e2,h2⟩
  ·exact .inl (nK h1 h2)
  rw[←e2];exact .inl h1
 rcases h2 with h2|⟨e2,h2⟩
 ·rw[e1];exact .inl h2
 exact .inr ⟨e1.trans e2,by omega⟩
theorem rI:∀(a:List UInt8),Op.bytesLess a a=false
 |[]=>rfl
 |x::a=>by
  have:=rI a;simp[Op.bytesLess,this]
theorem rJ(a:Ast):eK a a=false:=by
 unfold eK ltL;simp[rI]
theorem bI{l:List aQ}:cC l=0↔l.length≤20∧(∀x ∈ l,nP x=true)∧l.Pairwise (fun a b=>a.id<b.id):=by
 have:=lY (f:=iX) (ok1:=nP) (lt:=fun a b=>decide (a.id<b.id)) (fun b x=>by cases b<;>rfl) (fun a b c h1 h2=>by simp only[decide_eq_true_eq] at*;omega) l none;simp only[decide_eq_true_eq] at this;unfold cC;constructor
 ·intro h;split at h
  ·cases h
  split at h
  ·rename_i h1 h2;obtain⟨h3,h4,_⟩:=this.1 h2;exact⟨by omega,h3,h4⟩
  cases h
 rintro⟨h1,h2,h3⟩;rw[if_neg (by omega),if_pos (this.2 ⟨h2,h3,by simp⟩)]
theorem cQ{x:aQ}:nP x=true↔(1≤x.id∧x.id≤1000)∧(0≤x.bal∧x.bal≤1000000000000)∧0≤x.seq∧x.seq≤1000000:=by
 unfold nP aX;simp only[Bool.and_eq_true,decide_eq_true_eq]
theorem gQ{l:List aQ}{id:Int}:(aK l id).isSome=true↔id ∈ l.map (·.id):=by
 unfold aK;rw[List.find?_isSome];unfold isA;simp only[decide_eq_true_eq,List.mem_map]
def kX(accs:List aQ)(x:Ln):Bool:=(aK accs x.acc).isSome&&(aV x.ast&&(decide (x.ast≠nat)&&(decide (x.ast.iss≠x.acc)&&(aX x.lim&&decide (0≤x.bal∧x.bal≤x.lim)))))
theorem xO(accs:List aQ)(b:Option Ln)(x:Ln):iK accs b x=(kX accs x&&(match b with|some b=>eP b x.acc x.ast|none=>true)):=by
 unfold iK kX;simp only[Bool.and_assoc];cases b<;>rfl
theorem pN{a b c:Ln}(h1:eP a b.acc b.ast=true)(h2:eP b c.acc c.ast=true):eP a c.acc c.ast=true:=by
 unfold eP at*
 simp only[Bool.or_eq_true,Bool.and_eq_true,decide_eq_true_eq] at*
 rcases h1 with h1|⟨e1,h1⟩
 ·rcases h2 with h2|⟨e2,h2⟩
  ·exact .inl (by omega)
  exact .inl (by omega)
 rcases h2 with h2|⟨e2,h2⟩
 ·exact .inl (by omega)
 exact .inr ⟨e1.trans e2,nL h1 h2⟩
theorem bJ{l:List Ln}{accs:List aQ}:bW l accs=0↔cC accs=0∧l.length≤60∧(∀x ∈ l,kX accs x=true)∧l.Pairwise (fun a b=>eP a b.acc b.ast=true):=by
 have:=lY (f:=iK accs) (ok1:=kX accs) (lt:=fun a b=>eP a b.acc b.ast) (fun b x=>by rw[xO];cases b<;>rfl) (fun a b c=>pN) l none;unfold bW;constructor
 ·intro h;split at h
  ·contradiction
  split at h
  ·cases h
  split at h
  ·rename_i h0 h1 h2;obtain⟨h3,h4,_⟩:=this.1 h2;exact⟨by omega,by omega,h3,h4⟩
  cases h
 rintro⟨h0,h1,h2,h3⟩;rw[if_neg (by omega),if_neg (by omega),if_pos (this.2 ⟨h2,h3,by simp⟩)]
def jM(g:Lgr)(o:Ofr):Bool:=(aK g.accs o.sel).isSome&&(decide (1≤o.id∧o.id<g.nid)&&(aV o.sg&&(aV o.by_&&(decide (o.sg≠o.by_)&&(decide (1≤o.amt)&&(aX o.amt&&decide (cI o.num o.den=(o.num,o.den)∧o.num≠0)))))))
theorem pO(g:Lgr)(b:Option Ofr)(o:Ofr):fJ g b o=(jM g o&&(match b with|some b=>decide (b.id<o.id)|none=>true)):=by
 unfold fJ jM;generalize(aK g.accs o.sel).isSome=q1;generalize decide (1≤o.id∧o.id<g.nid)=q2;generalize(aV o.sg&&(aV o.by_&&(decide (o.sg≠o.by_)&&(decide (1≤o.amt)&&(aX o.amt&&decide (cI o.num o.den=(o.num,o.den)∧o.num≠0))))))=q3;cases b with
 |none=>cases q1<;>cases q2<;>cases q3<;>rfl
 |some b=>
  show(q1&&(q2&&(decide (b.id<o.id)&&q3)))=(q1&&(q2&&q3)&&decide (b.id<o.id));generalize decide (b.id<o.id)=q4;cases q1<;>cases q2<;>cases q3<;>cases q4<;>rfl
theorem aS{g:Lgr}:aH g=0↔bW g.lines g.accs=0∧g.offers.length≤40∧dI g=true∧(∀o ∈ g.offers,jM g o=true)∧g.offers.Pairwise (fun a b=>a.id<b.id):=by
 have:=lY (f:=fJ g) (ok1:=jM g) (lt:=fun a b=>decide (a.id<b.id)) (fun b x=>by rw[pO];cases b<;>rfl) (fun a b c h1 h2=>by simp only[decide_eq_true_eq] at*;omega) g.offers none;simp only[decide_eq_true_eq] at this;unfold aH;constructor
 ·intro h;split at h
  ·contradiction
  split at h
  ·cases h
  split at h
  ·rename_i h0 h1 h2;obtain⟨h3,h4,_⟩:=this.1 h2.2;exact⟨by omega,by omega,h2.1,h3,h4⟩
  cases h
 rintro⟨h0,h1,h2,h3,h4⟩;rw[if_neg (by omega),if_neg (by omega),if_pos ⟨h2,this.2 ⟨h3,h4,by simp⟩⟩]
def jW{α:Type}(p:α→Bool)(f:α→α)(l:List α):List α:=match l.findIdx? p with
 |some k=>match l[k]? with
  |some x=>l.set k (f x)
  |none=>l
 |none=>l
theorem gR{α:Type}(p:α→Bool)(f:α→α)(l:List α):(l.findIdx? p=none∧jW p f l=l)∨∃k,∃hk:k<l.length,l.findIdx? p=some k∧p l[k]=true∧jW p f l=l.set k (f l[k]):=by
 unfold jW;cases h:l.findIdx? p with
 |none=>exact .inl ⟨rfl,rfl⟩
 |some k=>
  obtain⟨hk,h1,_⟩:=List.findIdx?_eq_some_iff_getElem.1 h;exact .inr ⟨k,hk,rfl,h1,by simp only[List.getElem?_eq_getElem hk]⟩
theorem jC{α β:Type}(h:α→β)(l:List α)(k:Nat)(hk:k<l.length)(y:α)(e:h y=h l[k]):(l.set k y).map h=l.map h:=by
 apply List.ext_getElem
 ·simp
 intro j h1 h2;simp only[List.getElem_map,List.getElem_set];split
 ·rename_i e2;subst e2;exact e
 rfl
theorem jX{α β:Type}(h:α→β)(p:α→Bool)(f:α→α)(l:List α)(e:∀x,h (f x)=h x):(jW p f l).map h=l.map h:=by
 rcases gR p f l with⟨_,h1⟩|⟨k,hk,_,_,h1⟩
 ·rw[h1]
 rw[h1];exact jC h l k hk _ (e _)
theorem vL{α:Type}{p:α→Bool}{f:α→α}{l:List α}{y:α}(h:y ∈ jW p f l):y ∈ l∨∃x ∈ l,p x=true∧l.find? p=some x∧y=f x:=by
 rcases gR p f l with⟨_,h1⟩|⟨k,hk,h2,h3,h1⟩
 ·rw[h1] at h;exact .inl h
 rw[h1] at h;rcases List.mem_or_eq_of_mem_set h with h|h
 ·exact .inl h
 refine .inr ⟨l[k],List.getElem_mem hk,h3,?_,h⟩;obtain⟨_,_,h4⟩:=List.findIdx?_eq_some_iff_getElem.1 h2;rw[List.find?_eq_some_iff_getElem];exact⟨h3,k,hk,rfl,fun j hj=>by simpa using h4 j hj⟩
theorem pP{α β:Type}{h:α→β}{r:β→β→Prop}{l l':List α}(e:l'.map h=l.map h)(hp:l.Pairwise (fun a b=>r (h a) (h b))):l'.Pairwise (fun a b=>r (h a) (h b)):=by
 have:=List.pairwise_map.2 hp;rw[←e] at this;exact List.pairwise_map.1 this
def bN(g:Lgr)(acc:Int)(a:Ast):(Int × Int) × Bool:=match aK g.accs acc with
 |none=>((0,0),false)
 |some x=>if aV a=false then((0,0),false) else if a=nat then((x.bal,1000000000000 - x.bal),true) else if a.iss=acc then((1000000000000,1000000000000),true) else match bS g.lines acc a with
  |some l=>((l.bal,l.lim - l.bal),true)
  |none=>((0,0),false)
def iD(g:Lgr)(acc:Int)(a:Ast):Int:=if bW g.lines g.accs≠0 then 0 else(bN g acc a).1.2
theorem gS(g:Lgr)(acc:Int)(a:Ast):fG g acc a=if bW g.lines g.accs≠0 then 0 else(bN g acc a).1.1:=by
 unfold fG bN;split
 ·rfl
 cases aK g.accs acc with
 |none=>rfl
 |some x=>
  simp only;split
  ·rfl
  split
  ·rfl
  split
  ·rfl
  cases bS g.lines acc a<;>rfl
def ckT(g:Lgr)(acc:Int)(a:Ast)(n:Int):Int:=if bW g.lines g.accs≠0 then 74 else if aV a=false then 71 else if(aK g.accs acc).isSome=false then 67 else if aX n=false then 65 else 0
def jY(n:Int)(x:aQ):aQ:={x with bal:=x.bal+n}
def kY(n:Int)(x:Ln):Ln:={x with bal:=x.bal+n}
def dN(g:Lgr)(acc:Int)(a:Ast)(n:Int):Lgr:=if a=nat then {g with accs:=jW (isA acc) (jY n) g.accs} else if a.iss=acc then g else {g with lines:=jW (isL acc a) (kY n) g.lines}
def crd(g:Lgr)(acc:Int)(a:Ast)(n:Int):Lgr × Int:=
 if ckT g acc a n≠0 then(lg0,ckT g acc a n) else if(bN g acc a).2=false then(lg0,70) else if(bN g acc a).1.2<n then(lg0,if a=nat then 65 else 70) else(dN g acc a n,0)
def dbt(g:Lgr)(acc:Int)(a:Ast)(n:Int):Lgr × Int:=
 if ckT g acc a n≠0 then(lg0,ckT g acc a n) else if(bN g acc a).2=false then(lg0,70) else if(bN g acc a).1.1<n then(lg0,66) else(dN g acc a (-n),0)
theorem tH{g:Lgr}{acc:Int}{a:Ast}{n:Int}(h:ckT g acc a n=0):bW g.lines g.accs=0∧aV a=true∧(∃x,aK g.accs acc=some x)∧0≤n∧n≤1000000000000:=by
 unfold ckT at h;split at h
 ·cases h
 split at h
 ·cases h
 split at h
 ·cases h
 split at h
 ·cases h
 rename_i h1 h2 h3 h4;refine⟨by omega,by simpa using h2,by cases e:aK g.accs acc with|none=>rw[e] at h3;simp at h3|some x=>exact⟨x,rfl⟩,?_⟩;have:aX n=true:=by simpa using h4
 unfold aX at this;exact of_decide_eq_true this
theorem tI{g h:Lgr}(hg:aH g=0)(hi:h.accs.map (·.id)=g.accs.map (·.id))(hA:∀x ∈ h.accs,nP x=true)(hk:h.lines.map (fun x=>(x.acc,x.ast))=g.lines.map (fun x=>(x.acc,x.ast)))(hL:∀x ∈ h.lines,kX g.accs x=true)(ho:h.offers=g.offers)(hn:h.nid=g.nid)(hl:dI h=true):aH h=0:=by
 obtain⟨g1,g2,g3,g4,g5⟩:=aS.1 hg;obtain⟨l1,l2,l3,l4⟩:=bJ.1 g1;obtain⟨a1,a2,a3⟩:=bI.1 l1;have hf:∀id,(aK h.accs id).isSome=(aK g.accs id).isSome:=fun id=>by rw[Bool.eq_iff_iff,gQ,gQ,hi]
 have e1:=congrArg List.length hi;have e2:=congrArg List.length hk;simp only[List.length_map] at e1 e2;refine aS.2 ⟨bJ.2 ⟨bI.2 ⟨by omega,hA,pP (h:=fun x:aQ=>x.id) (r:=fun a b=>a<b) hi a3⟩,by omega,fun x hx=>?_,?_⟩,by rw[ho];exact g2,hl,fun o hm=>?_,by rw[ho];exact g5⟩
 ·have:=hL x hx;unfold kX at this ⊢;rw[hf];exact this
 ·exact pP (h:=fun x:Ln=>(x.acc,x.ast)) (r:=fun a b=>(decide (a.1<b.1)||(decide (a.1=b.1)&&eK a.2 b.2))=true) hk l4
 rw[ho] at hm;have:=g4 o hm;unfold jM at this ⊢;rw[hf,hn];exact this
theorem eH(g:Lgr)(acc:Int)(a:Ast)(m:Int):(dN g acc a m).offers=g.offers∧(dN g acc a m).nid=g.nid∧(dN g acc a m).num=g.num∧(dN g acc a m).fees=g.fees∧(dN g acc a m).link=g.link∧(dN g acc a m).accs.map (fun x=>(x.id,x.seq))=g.accs.map (fun x=>(x.id,x.seq))∧(dN g acc a m).lines.map (fun x=>(x.acc,x.ast,x.lim))=g.lines.map (fun x=>(x.acc,x.ast,x.lim)):=by
 unfold dN;split
 ·exact⟨rfl,rfl,rfl,rfl,rfl,jX _ _ _ _ fun _=>rfl,rfl⟩
 split
 ·exact⟨rfl,rfl,rfl,rfl,rfl,rfl,rfl⟩
 exact⟨rfl,rfl,rfl,rfl,rfl,rfl,jX _ _ _ _ fun _=>rfl⟩
theorem vM{g:Lgr}{acc:Int}{a:Ast}{m:Int}(hg:aH g=0)(hA:a=nat→∀x,aK g.accs acc=some x→0≤x.bal+m∧x.bal+m≤1000000000000)(hL:a≠nat→a.iss≠acc→∀l,bS g.lines acc a=some l→0≤l.bal+m∧l.bal+m≤l.lim):aH (dN g acc a m)=0:=by
 obtain⟨g1,g2,g3,g4,g5⟩:=aS.1 hg;obtain⟨l1,l2,l3,l4⟩:=bJ.1 g1;obtain⟨a1,a2,a3⟩:=bI.1 l1;unfold dN;split
 ·rename_i ha;refine tI hg (jX _ _ _ _ fun _=>rfl) (fun y hy=>?_) rfl l3 rfl rfl g3;rcases vL hy with hy|⟨x,hx,hp,hf,rfl⟩
  ·exact a2 y hy
  have:=cQ.1 (a2 x hx);exact cQ.2 ⟨this.1,hA ha x hf,this.2.2⟩
 rename_i ha;split
 ·exact hg
 rename_i hi;refine tI hg rfl a2 (jX _ _ _ _ fun _=>rfl) (fun y hy=>?_) rfl rfl g3;rcases vL hy with hy|⟨x,hx,hp,hf,rfl⟩
 ·exact l3 y hy
 have h1:=hL ha hi x hf;have:=l3 x hx;unfold kX at this ⊢;simp only[Bool.and_eq_true,decide_eq_true_eq] at this ⊢;obtain⟨q1,q2,q3,q4,q5,q6⟩:=this;exact⟨q1,q2,q3,q4,q5,h1⟩
theorem rK{g:Lgr}(hg:bW g.lines g.accs=0){acc:Int}{a:Ast}:0≤(bN g acc a).1.1∧0≤(bN g acc a).1.2∧(bN g acc a).1.1≤1000000000000∧(bN g acc a).1.2≤1000000000000:=by
 obtain⟨l1,l2,l3,l4⟩:=bJ.1 hg;obtain⟨a1,a2,a3⟩:=bI.1 l1;unfold bN;split
 ·simp
 rename_i x hx;have:=cQ.1 (a2 x (List.mem_of_find?_eq_some hx));split
 ·simp
 split
 ·simp only;omega
 split
 ·simp
 split
 ·rename_i l hl;have:=l3 l (List.mem_of_find?_eq_some hl);unfold kX aX at this;simp only[Bool.and_eq_true,decide_eq_true_eq] at this;obtain⟨q1,q2,q3,q4,q5,q6⟩:=this;simp only;omega
 simp
theorem vN{g:Lgr}{acc:Int}{a:Ast}{x:aQ}(hx:aK g.accs acc=some x)(hv:aV a=true)(ha:a=nat):bN g acc a=((x.bal,1000000000000 - x.bal),true):=by
 unfold bN;rw[hx];simp only[hv,if_pos ha];simp
theorem rM{g:Lgr}{acc:Int}{a:Ast}{x:aQ}{l:Ln}(hx:aK g.accs acc=some x)(hv:aV a=true)(ha:a≠nat)(hi:a.iss≠acc)(hl:bS g.lines acc a=some l):bN g acc a=((l.bal,l.lim - l.bal),true):=by
 unfold bN;rw[hx];simp[hv,ha,hi,hl]
theorem lZ{g:Lgr}{acc:Int}{a:Ast}{n:Int}(h:(crd g acc a n).2=0):ckT g acc a n=0∧(bN g acc a).2=true∧n≤(bN g acc a).1.2∧(crd g acc a n).1=dN g acc a n:=by
 unfold crd at h ⊢;split at h
 ·contradiction
 rename_i h1;split at h
 ·cases h
 rename_i h2;split at h
 ·simp only at h;split at h<;>cases h
 rename_i h3;rw[if_neg h1,if_neg h2,if_neg h3];exact⟨by omega,by simpa using h2,by omega,rfl⟩
theorem mA{g:Lgr}{acc:Int}{a:Ast}{n:Int}(h:(dbt g acc a n).2=0):ckT g acc a n=0∧(bN g acc a).2=true∧n≤(bN g acc a).1.1∧(dbt g acc a n).1=dN g acc a (-n):=by
 unfold dbt at h ⊢;split at h
 ·contradiction
 rename_i h1;split at h
 ·cases h
 rename_i h2;split at h
 ·cases h
 rename_i h3;rw[if_neg h1,if_neg h2,if_neg h3];exact⟨by omega,by simpa using h2,by omega,rfl⟩
theorem pQ{g:Lgr}(hg:bW g.lines g.accs=0){acc:Int}{a:Ast}{l:Ln}(h:bS g.lines acc a=some l):0≤l.bal∧l.bal≤l.lim∧l.lim≤1000000000000:=by
 have:=(bJ.1 hg).2.2.1 l (List.mem_of_find?_eq_some h);unfold kX aX at this;simp only[Bool.and_eq_true,decide_eq_true_eq] at this;omega
theorem pR{g:Lgr}(hg:bW g.lines g.accs=0){acc:Int}{x:aQ}(h:aK g.accs acc=some x):0≤x.bal∧x.bal≤1000000000000∧0≤x.seq∧x.seq≤1000000:=by
 have:=cQ.1 ((bI.1 (bJ.1 hg).1).2.1 x (List.mem_of_find?_eq_some h));omega
theorem yQ{g:Lgr}{acc:Int}{a:Ast}{n:Int}(hg:aH g=0)(h:(crd g acc a n).2=0):aH (crd g acc a n).1=0:=by
 obtain⟨h1,h2,h3,h4⟩:=lZ h;obtain⟨c1,c2,⟨x,c3⟩,c4,c5⟩:=tH h1;rw[h4];refine vM hg (fun ha y hy=>?_) (fun ha hi l hl=>?_)
 ·rw[c3] at hy;injection hy with hy
  subst hy;rw[vN c3 c2 ha] at h3;have:=pR c1 c3;simp only at h3;omega
 rw[rM c3 c2 ha hi hl] at h3;have:=pQ c1 hl;simp only at h3;omega
theorem tJ{g:Lgr}{acc:Int}{a:Ast}{n:Int}(hg:aH g=0)(h:(dbt g acc a n).2=0):aH (dbt g acc a n).1=0:=by
 obtain⟨h1,h2,h3,h4⟩:=mA h;obtain⟨c1,c2,⟨x,c3⟩,c4,c5⟩:=tH h1;rw[h4];refine vM hg (fun ha y hy=>?_) (fun ha hi l hl=>?_)
 ·rw[c3] at hy;injection hy with hy
  subst hy;rw[vN c3 c2 ha] at h3;have:=pR c1 c3;simp only at h3;omega
 rw[rM c3 c2 ha hi hl] at h3;have:=pQ c1 hl;simp only at h3;omega
theorem Aq{l:List aQ}{p:aQ→Bool}{m id:Int}:(aK (jW p (jY m) l) id).isSome=(aK l id).isSome:=by
 rw[Bool.eq_iff_iff,gQ,gQ,jX (fun x:aQ=>x.id) p (jY m) l (fun _=>rfl)]
theorem vO{α:Type}{p:α→Bool}{l:List α}{k:Nat}(hk:k<l.length){y:α}(h1:p l[k]=false)(h2:p y=false):(l.set k y).find? p=l.find? p:=by
 induction l generalizing k with
 |nil=>simp at hk
 |cons x r ih=>
  cases k with
  |zero=>
   have h1:p x=false:=h1;simp[h1,h2]
  |succ k=>
   have:=ih (k:=k) (by simpa using hk) (by simpa using h1);simp only[List.set_cons_succ,List.find?_cons,this]
theorem As{l:List Ln}{acc acc':Int}{a a':Ast}{m:Int}(h:a'≠a):bS (jW (isL acc a) (kY m) l) acc' a'=bS l acc' a':=by
 unfold bS;rcases gR (isL acc a) (kY m) l with⟨_,h1⟩|⟨k,hk,_,hp,h1⟩
 ·rw[h1]
 rw[h1];unfold isL at hp;simp only[decide_eq_true_eq] at hp;refine vO hk ?_ ?_
 ·unfold isL;rw[decide_eq_false_iff_not];rintro⟨_,e⟩;exact h (e.symm.trans hp.2)
 unfold isL kY;rw[decide_eq_false_iff_not];rintro⟨_,e⟩;exact h (e.symm.trans hp.2)
theorem xP{g:Lgr}{acc acc':Int}{a a':Ast}{m:Int}(h:a'≠a):bN (dN g acc a m) acc' a'=bN g acc' a':=by
 unfold dN;split
 ·rename_i ha;subst ha;unfold bN;have:=Aq (l:=g.accs) (p:=isA acc) (m:=m) (id:=acc');cases h1:aK g.accs acc' with
  |none=>
   rw[h1] at this;cases h2:aK (jW (isA acc) (jY m) g.accs) acc' with
   |none=>rfl
   |some y=>rw[h2] at this;cases this
  |some x=>
   rw[h1] at this;cases h2:aK (jW (isA acc) (jY m) g.accs) acc' with
   |none=>rw[h2] at this;cases this
   |some y=>simp only[if_neg h]
 split
 ·rfl
 unfold bN;simp only[As h]
end Go.Proofs.YthaggndnfamhjaaGreatDoor
