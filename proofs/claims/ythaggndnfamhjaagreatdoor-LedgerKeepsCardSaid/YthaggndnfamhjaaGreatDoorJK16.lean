/- Texts, joined. -/
import Derived.Test.YthaggndnfamhjaaGreatDoorJK15

set_option linter.unusedSimpArgs false
set_option linter.unusedVariables false
set_option maxRecDepth 100000
set_option maxHeartbeats 16000000
namespace Go.Proofs.YthaggndnfamhjaaGreatDoor
open Go Go.RowKit
theorem zR{P:Program}{md:Region.Mode}(hmd:md= .any){ops:Array Oper}{Q:Exit→Act→World→Prop}{a0:Act}{w:World}(V:Nat→Value)(S:World→Prop)(N:Nat)
  (hd:oU ops=true) (hf:iP .any ops=true) (hn:zQ ops N=true) (hN:N≤a0.tmps.size) (h0:S w)
  (hgd:((List.range ops.size).all fun i=>match (ops[i]?).bind (·.guard) with|some (j,_)=>cE ops i j&&(bE ops j).isSome|none=>true)=true)
  (hstep:∀(i:Nat),i<ops.size→∀(ev:Operand→Value) (w:World),S w→(∀v,ev (.const v)=v)→(∀f,ev (.func f)= .func (.func f) #[] #[])→(∀g,ev (.global g)= .pointer (some ⟨g,0,none⟩))→(∀j d,bE ops j=some d→cE ops i j=true→ev (.tmp d)=V j)→(∀t,fF ops t=true→ev (.tmp t)=a0.eval (.tmp t))→
   ∀o,ops[i]?=some o→kZ P V S i o ev w)
  (hend:∀w',S w'→Q .normal (aZ ops V ops.size a0) w'):wpAny P md ops Q ops.size (Array.replicate ops.size false) a0 w:=by
 subst hmd;rw[←kK ops a0 ops.size];refine qT (P:=P) (md:=.any) (ops:=ops) (Q:=Q) a0 (fun L ys w=>S w∧∀j,j<ops.size→L j→ys j=V j) hd hf ?_ ?_ ops.size (Array.replicate ops.size false) _ w (by simp) (by simp[List.count_replicate]) ?_
 ·rintro L ys w i ⟨hS,hV⟩ hi hL hdep;obtain⟨o,ho⟩:∃o,ops[i]?=some o:=⟨ops[i],by simp[hi]⟩;have hlt:∀j d,bE ops j=some d→j<ops.size:=by
   intro j d hj;rcases Nat.lt_or_ge j ops.size with h'|h'
   ·exact h'
   unfold bE at hj;rw[Array.getElem?_eq_none h'] at hj;cases hj
  have hdb:∀j,cE ops i j=true→L j:=by
   intro j hj;unfold cE at hj;rw[ho] at hj;simp only[Option.map_some,Option.getD_some] at hj;rw[Array.any_eq_true'] at hj;obtain⟨e,he,he2⟩:=hj;rw[Bool.and_eq_true,beq_iff_eq] at he2;rw[←he2.2];exact hdep o ho e he he2.1
  have hin:∀j d,bE ops j=some d→d<a0.tmps.size:=by
   exact DJ
  have hev:∀j d,bE ops j=some d→cE ops i j=true→(aZ ops ys ops.size a0).eval (.tmp d)=V j:=fun j d hj hdp=>by
   rw[kL ops ys hd j d hj ops.size a0 (hlt j d hj) (hin j d hj),hV j (hlt j d hj) (hdb j hdp)]
  have hg:=hstep i hi (aZ ops ys ops.size a0).eval w hS (fun _=>rfl) (fun _=>rfl) (fun _=>rfl) hev (fun t ht=>jR ops ys t ops.size a0 (fun j hj=>by
   unfold fF at ht;have:=List.all_eq_true.1 ht j (by simpa using hj);simpa using this)) o ho
  have hJ:∀w',S w'→∃v,(aZ ops ys ops.size a0).put (bE ops i) (V i)=(aZ ops ys ops.size a0).put (bE ops i) v∧S w'∧∀j,j<ops.size→(L j∨j=i)→cX ys i v j=V j:=fun w' hS'=>⟨V i,rfl,hS',fun j hj hL'=>by
   unfold cX;by_cases e:j=i
   ·rw[if_pos e,e]
   rw[if_neg e];exact hV j hj (hL'.resolve_right e)⟩
  unfold kZ at hg;cases hgu:o.guard with
  |none=>
   rw[hgu] at hg;exact kM ho (by unfold Region.wanted;rw[hgu]) hg hJ
  |some jw=>
   obtain⟨j,want⟩:=jw;rw[hgu] at hg;have hdj2:cE ops i j=true∧(bE ops j).isSome=true:=by
    have:=List.all_eq_true.1 hgd i (by simpa using hi);rw[ho] at this;simp only[Option.bind_some,hgu,Bool.and_eq_true] at this;exact this
   have hdj:=hdj2.1;have hy:yielded ops (aZ ops ys ops.size a0).tmps j=some want↔V j= .bool want:=by
    unfold yielded;cases hdd:bE ops j with
    |none=>
     have:=hdj2.2;rw[hdd] at this;cases this
    |some d=>
     have hb:(ops[j]?).bind (·.dst)=some d:=hdd;have he:=hev j d hdd hdj;have hs:d<(aZ ops ys ops.size a0).tmps.size:=by rw[iQ];exact hin j d hdd
     rw[hb];simp only[Option.bind_some,Array.getElem?_eq_getElem hs];have:(aZ ops ys ops.size a0).tmps[d]=V j:=by
      rw[←he];simp[Act.eval,Array.getD,hs]
     rw[this];cases V j<;>simp
   by_cases hvw:V j= .bool want
   ·exact kM ho (by unfold Region.wanted;rw[hgu];simp only;rw[hy.2 hvw];simp) (hg.1 hvw) hJ
   have hw:Region.wanted o (yielded ops (aZ ops ys ops.size a0).tmps)=false:=by
    unfold Region.wanted;rw[hgu];simp only;rw[beq_eq_false_iff_ne];exact fun h=>hvw (hy.1 h)
   unfold wpOp;simp only[ho];rw[if_neg (by rw[hw];simp)];have hdst:bE ops i=o.dst:=by unfold bE;rw[ho];rfl
   rw[←hdst,←hg.2 hvw];exact hJ w hS
 ·rintro L ys w ⟨hS,hV⟩ hL;rw[gM ops (ys:=ys) (zs:=V) ops.size a0 (fun j hj=>hV j hj (hL j hj))];exact hend w hS
 exact⟨h0,fun j hj h=>by
  exfalso;simp only[Array.getD] at h;split at h<;>simp at h⟩
def aG:List Value→Nat→Value
 |[],_=>undef
 |v::_,0=>v
 |_::r,n+1=>aG r n
structure iB (ops:Array Oper) (a0:Act) (i:Nat) (vs:List Value) (ev:Operand→Value):Prop where
 const:∀v,ev (.const v)=v
 func:∀f,ev (.func f)= .func (.func f) #[] #[]
 glob:∀g,ev (.global g)= .pointer (some ⟨g,0,none⟩)
 tmp:∀j d m,j+m+1=i→bE ops j=some d→cE ops i j=true→ev (.tmp d)=aG vs m
 out:∀t,fF ops t=true→ev (.tmp t)=a0.eval (.tmp t)
def FxL(P:Program)(ops:Array Oper)(S:World→Prop)(a0:Act)(K:List Value→World→Prop):List Oper→Nat→List Value→Prop
 |[],_,vs=>∀W,S W→K vs W
 |o::r,i,vs=>∃v,(∀ev w,S w→iB ops a0 i vs ev→match o.guard with
   |none=>oV P v S o ev w
   |some (j,want)=>(aG vs (i - 1 - j)= .bool want→oV P v S o ev w)∧(aG vs (i - 1 - j)≠ .bool want→v=undef))∧FxL P ops S a0 K r (i+1) (v::vs)
theorem FxL.pure{P:Program}{ops:Array Oper}{S:World→Prop}{a0:Act}{K:List Value→World→Prop}{o:Oper}{r:List Oper}{i:Nat}{vs:List Value}{v:Value}(hg:o.guard=none)
  (h:∀ev w,S w→iB ops a0 i vs ev→(execOp ev o).run P w= .ok (.value v) w) (hr:FxL P ops S a0 K r (i+1) (v::vs)):FxL P ops S a0 K (o::r) i vs:=
 ⟨v,fun ev w hS E=>by rw[hg];exact .inl ⟨w,h ev w hS E,hS⟩,hr⟩
theorem FxL.call{P:Program}{ops:Array Oper}{S:World→Prop}{a0:Act}{K:List Value→World→Prop}{o:Oper}{r:List Oper}{i:Nat}{vs:List Value}{v:Value}{f:FuncId}{args:Array Value}(hg:o.guard=none)
  (h:∀ev w,S w→iB ops a0 i vs ev→(execOp ev o).run P w= .ok (.enter f args) w) (hc:∀w,S w→Calls P f args w fun e w''=>e= .returned v∧S w'') (hr:FxL P ops S a0 K r (i+1) (v::vs)):FxL P ops S a0 K (o::r) i vs:=
 ⟨v,fun ev w hS E=>by rw[hg];exact .inr ⟨f,args,w,h ev w hS E,hc w hS⟩,hr⟩
theorem FxL.gpure{P:Program}{ops:Array Oper}{S:World→Prop}{a0:Act}{K:List Value→World→Prop}{o:Oper}{r:List Oper}{i:Nat}{vs:List Value}{v:Value}{j:Nat}{want:Bool}(hg:o.guard=some (j,want))(m:Nat)(hm:j+m+1=i)(hj:aG vs m= .bool want)
  (h:∀ev w,S w→iB ops a0 i vs ev→(execOp ev o).run P w= .ok (.value v) w) (hr:FxL P ops S a0 K r (i+1) (v::vs)):FxL P ops S a0 K (o::r) i vs:=
 ⟨v,fun ev w hS E=>by rw[hg];exact⟨fun _=>.inl ⟨w,h ev w hS E,hS⟩,fun hh=>absurd (show aG vs (i - 1 - j)= .bool want by rw[show i - 1 - j=m by omega];exact hj) hh⟩,hr⟩
theorem FxL.gcall{P:Program}{ops:Array Oper}{S:World→Prop}{a0:Act}{K:List Value→World→Prop}{o:Oper}{r:List Oper}{i:Nat}{vs:List Value}{v:Value}{f:FuncId}{args:Array Value}{j:Nat}{want:Bool}(hg:o.guard=some (j,want))(m:Nat)(hm:j+m+1=i)(hj:aG vs m= .bool want)
  (h:∀ev w,S w→iB ops a0 i vs ev→(execOp ev o).run P w= .ok (.enter f args) w) (hc:∀w,S w→Calls P f args w fun e w''=>e= .returned v∧S w'') (hr:FxL P ops S a0 K r (i+1) (v::vs)):FxL P ops S a0 K (o::r) i vs:=
 ⟨v,fun ev w hS E=>by rw[hg];exact⟨fun _=>.inr ⟨f,args,w,h ev w hS E,hc w hS⟩,fun hh=>absurd (show aG vs (i - 1 - j)= .bool want by rw[show i - 1 - j=m by omega];exact hj) hh⟩,hr⟩
theorem FxL.skip{P:Program}{ops:Array Oper}{S:World→Prop}{a0:Act}{K:List Value→World→Prop}{o:Oper}{r:List Oper}{i:Nat}{vs:List Value}{j:Nat}{want:Bool}(hg:o.guard=some (j,want))(m:Nat)(hm:j+m+1=i)(hj:aG vs m≠ .bool want)
  (hr:FxL P ops S a0 K r (i+1) (undef::vs)):FxL P ops S a0 K (o::r) i vs:=
 ⟨undef,fun ev w hS E=>by rw[hg];exact⟨fun hh=>absurd hh (show aG vs (i - 1 - j)≠ .bool want by rw[show i - 1 - j=m by omega];exact hj),fun _=>rfl⟩,hr⟩
theorem FxL.done{P:Program}{ops:Array Oper}{S:World→Prop}{a0:Act}{K:List Value→World→Prop}{i:Nat}{vs:List Value}(h:∀W,S W→K vs W):FxL P ops S a0 K [] i vs:=h
def evT(ev:Operand→Value)(vs:List Value):List (Nat × Nat × Nat)→Prop→Prop
 |[],K=>K
 |(m,_,d)::r,K=>ev (.tmp d)=aG vs m∧evT ev vs r K
def evU(ev:Operand→Value)(a0:Act):List Nat→Prop→Prop
 |[],K=>K
 |t::r,K=>ev (.tmp t)=a0.eval (.tmp t)∧evU ev a0 r K
def evC(ev:Operand→Value):Prop:=(∀v,ev (.const v)=v)∧(∀f,ev (.func f)= .func (.func f) #[] #[])∧∀g,ev (.global g)= .pointer (some ⟨g,0,none⟩)
theorem wW{ev:Operand→Value}{a0:Act}{ops:Array Oper}(h:∀t,fF ops t=true→ev (.tmp t)=a0.eval (.tmp t)){K:Prop}(k:K):∀o:List Nat,o.all (fF ops)=true→evU ev a0 o K
 |[],_=>k
 |t::r,ho=>by
  rw[List.all_cons,Bool.and_eq_true] at ho;exact⟨h t ho.1,wW h k r ho.2⟩
theorem iB.get{ops:Array Oper}{a0:Act}{i:Nat}{vs:List Value}{ev:Operand→Value}(E:iB ops a0 i vs ev):∀(l:List (Nat × Nat × Nat)) (o:List Nat),(l.all (fun x=>x.2.1+x.1+1 == i&&(bE ops x.2.1 == some x.2.2&&cE ops i x.2.1))&&o.all (fF ops))=true→evT ev vs l (evU ev a0 o (evC ev))
 |[],o,h=>wW E.out ⟨E.const,E.func,E.glob⟩ o (by simpa using h)
 |(m,j,d)::r,o,h=>by
  rw[List.all_cons,Bool.and_eq_true,Bool.and_eq_true,Bool.and_eq_true,Bool.and_eq_true,beq_iff_eq,beq_iff_eq] at h;exact⟨E.tmp j d m h.1.1.1 h.1.1.2.1 h.1.1.2.2,iB.get E r o (by rw[Bool.and_eq_true];exact⟨h.1.2,h.2⟩)⟩
def gwV(g:Value)(want:Bool)(u:Value):Value:=match g with
 | .bool b=>bif b == want then u else undef
 |_=>undef
theorem bG(b:Bool)(u:Value):gwV (.bool b) b u=u:=by cases b<;>rfl
theorem jS{g:Value}{want:Bool}{u:Value}(h:g≠ .bool want):gwV g want u=undef:=by
 cases g<;>try rfl
 rename_i b;cases b<;>cases want<;>first|rfl|exact absurd rfl h
section
variable {P:Program} {ops:Array Oper} {S:World→Prop} {a0:Act} {K:List Value→World→Prop} {o:Oper} {r:List Oper} {i:Nat} {vs:List Value} {u:Value} {j:Nat} {want:Bool} {f:FuncId} {args:Array Value}
theorem FxL.gw{g:Value}(hg:o.guard=some (j,want))(m:Nat)(hm:j+m+1=i)(hgv:aG vs m=g)(h:g= .bool want→∀ev w,S w→iB ops a0 i vs ev→(execOp ev o).run P w= .ok (.value u) w)(hr:FxL P ops S a0 K r (i+1) (gwV g want u::vs)):FxL P ops S a0 K (o::r) i vs:=
 ⟨_,fun ev w hS E=>by
  rw[hg];have e:aG vs (i - 1 - j)=g:=by rw[show i - 1 - j=m by omega];exact hgv
  simp only[e];refine⟨fun hh=>.inl ⟨w,?_,hS⟩,fun hh=>jS hh⟩;rw[hh,bG];exact h hh ev w hS E,hr⟩
theorem FxL.gwc{g:Value}(hg:o.guard=some (j,want))(m:Nat)(hm:j+m+1=i)(hgv:aG vs m=g)(h:g= .bool want→∀ev w,S w→iB ops a0 i vs ev→(execOp ev o).run P w= .ok (.enter f args) w)(hc:g= .bool want→∀w,S w→Calls P f args w fun e w''=>e= .returned u∧S w'')(hr:FxL P ops S a0 K r (i+1) (gwV g want u::vs)):FxL P ops S a0 K (o::r) i vs:=
 ⟨_,fun ev w hS E=>by
  rw[hg];have e:aG vs (i - 1 - j)=g:=by rw[show i - 1 - j=m by omega];exact hgv
  simp only[e];refine⟨fun hh=>.inr ⟨f,args,w,h hh ev w hS E,?_⟩,fun hh=>jS hh⟩;rw[hh,bG];exact hc hh w hS,hr⟩
theorem dL{ev:Operand→Value}{w:World}{c a b:Operand}(hop:o.op= .pick c a b){t:Bool}(hc:ev c= .bool t):(execOp ev o).run P w= .ok (.value (bif t then ev a else ev b)) w:=by
 unfold execOp;simp only[hop,hc,asBool,Sem.run_bind,Sem.run_pure,Result.andThen_ok];cases t<;>rfl
theorem FxL.por{a b:Nat}{e d:Bool}(hg:o.guard=none)(hop:o.op= .pick (.tmp a) (.const (.bool true)) (.tmp b))(ma ja mb jb:Nat)(hE:([(ma,ja,a),(mb,jb,b)].all (fun x=>x.2.1+x.1+1 == i&&(bE ops x.2.1 == some x.2.2&&cE ops i x.2.1))&&[].all (fF ops))=true)
  (ha:aG vs ma= .bool e) (hb:aG vs mb=gwV (.bool e) false (.bool d)) (hr:FxL P ops S a0 K r (i+1) (.bool (e||d)::vs)):FxL P ops S a0 K (o::r) i vs:=
 FxL.pure hg (fun ev w _ E=>by
  obtain⟨h1,h2,h3, -⟩:=E.get _ _ hE;rw[dL hop (h1.trans ha),h3,h2,hb];cases e<;>rfl) hr
theorem FxL.pand{a b:Nat}{e d:Bool}(hg:o.guard=none)(hop:o.op= .pick (.tmp a) (.tmp b) (.const (.bool false)))(ma ja mb jb:Nat)(hE:([(ma,ja,a),(mb,jb,b)].all (fun x=>x.2.1+x.1+1 == i&&(bE ops x.2.1 == some x.2.2&&cE ops i x.2.1))&&[].all (fF ops))=true)
  (ha:aG vs ma= .bool e) (hb:aG vs mb=gwV (.bool e) true (.bool d)) (hr:FxL P ops S a0 K r (i+1) (.bool (e&&d)::vs)):FxL P ops S a0 K (o::r) i vs:=
 FxL.pure hg (fun ev w _ E=>by
  obtain⟨h1,h2,h3, -⟩:=E.get _ _ hE;rw[dL hop (h1.trans ha),h3,h2,hb];cases e<;>rfl) hr
theorem FxL.gpor{a b:Nat}{e d:Bool}{g:Value}(hg:o.guard=some (j,want))(hop:o.op= .pick (.tmp a) (.const (.bool true)) (.tmp b))(m:Nat)(hm:j+m+1=i)(hgv:aG vs m=g)(ma ja mb jb:Nat)(hE:([(ma,ja,a),(mb,jb,b)].all (fun x=>x.2.1+x.1+1 == i&&(bE ops x.2.1 == some x.2.2&&cE ops i x.2.1))&&[].all (fF ops))=true)
  (ha:aG vs ma=gwV g want (.bool e)) (hb:aG vs mb=gwV (gwV g want (.bool e)) false (.bool d)) (hr:FxL P ops S a0 K r (i+1) (gwV g want (.bool (e||d))::vs)):FxL P ops S a0 K (o::r) i vs:=by
 refine FxL.gw hg m hm hgv (fun hh ev w _ E=>?_) hr;obtain⟨h1,h2,h3, -⟩:=E.get _ _ hE;subst hh;rw[bG] at ha hb;rw[dL hop (h1.trans ha),h3,h2,hb];cases e<;>rfl
theorem FxL.gpand{a b:Nat}{e d:Bool}{g:Value}(hg:o.guard=some (j,want))(hop:o.op= .pick (.tmp a) (.tmp b) (.const (.bool false)))(m:Nat)(hm:j+m+1=i)(hgv:aG vs m=g)(ma ja mb jb:Nat)(hE:([(ma,ja,a),(mb,jb,b)].all (fun x=>x.2.1+x.1+1 == i&&(bE ops x.2.1 == some x.2.2&&cE ops i x.2.1))&&[].all (fF ops))=true)
  (ha:aG vs ma=gwV g want (.bool e)) (hb:aG vs mb=gwV (gwV g want (.bool e)) true (.bool d)) (hr:FxL P ops S a0 K r (i+1) (gwV g want (.bool (e&&d))::vs)):FxL P ops S a0 K (o::r) i vs:=by
 refine FxL.gw hg m hm hgv (fun hh ev w _ E=>?_) hr;obtain⟨h1,h2,h3, -⟩:=E.get _ _ hE;subst hh;rw[bG] at ha hb;rw[dL hop (h1.trans ha),h3,h2,hb];cases e<;>rfl
end
theorem FxL.spec{P:Program}{ops:Array Oper}{S:World→Prop}{a0:Act}{K:List Value→World→Prop}(hf:iP .any ops=true)(hgb:((List.range ops.size).all fun i=>match (ops[i]?).bind (·.guard) with|some (j,_)=>decide (j<i)|none=>true)=true):
  ∀(l:List Oper) (i:Nat) (vs:List Value),i≤ops.size→ops.toList.drop i=l→vs.length=i→FxL P ops S a0 K l i vs→
   ∃V:Nat→Value,(∀j,j<i→V j=aG vs (i - 1 - j))∧(∀k o,i≤k→ops[k]?=some o→∀ev w,S w→(∀v,ev (.const v)=v)→(∀f,ev (.func f)= .func (.func f) #[] #[])→(∀g,ev (.global g)= .pointer (some ⟨g,0,none⟩))→(∀j d,bE ops j=some d→cE ops k j=true→ev (.tmp d)=V j)→(∀t,fF ops t=true→ev (.tmp t)=a0.eval (.tmp t))→kZ P V S k o ev w)∧(∃ws:List Value,ws.length=ops.size∧(∀j,j<ops.size→V j=aG ws (ops.size - 1 - j))∧∀W,S W→K ws W)
 |[],i,vs,hle,hl,hv,h=>by
  have hi:i=ops.size:=by
   have:=congrArg List.length hl;simp at this;omega
  subst hi;refine⟨fun j=>aG vs (ops.size - 1 - j),fun j _=>rfl,fun k o hk ho=>?_,vs,hv,fun j _=>rfl,h⟩;rw[Array.getElem?_eq_none (by omega)] at ho;cases ho
 |o::r,i,vs,hle,hl,hv,h=>by
  obtain⟨v,h1,h2⟩:=h;have hoi:ops[i]?=some o:=by
   have:=congrArg (fun l=>l[0]?) hl;simpa using this
  have hi:i<ops.size:=by
   rcases Nat.lt_or_ge i ops.size with h'|h'
   ·exact h'
   rw[Array.getElem?_eq_none h'] at hoi;cases hoi
  have hl':ops.toList.drop (i+1)=r:=by
   rw[←List.tail_drop,hl];rfl
  obtain⟨V,hV,hk,hw⟩:=FxL.spec hf hgb r (i+1) (v::vs) (by omega) hl' (by simp[hv]) h2;have hVi:V i=v:=by
   rw[hV i (by omega)];simp[aG]
  have hVj:∀j,j<i→V j=aG vs (i - 1 - j):=fun j hj=>by
   rw[hV j (by omega),show i+1 - 1 - j=(i - 1 - j)+1 by omega];rfl
  refine⟨V,hVj,fun k o' hik ho'=>?_,hw⟩;rcases Nat.eq_or_lt_of_le hik with e|e
  ·subst e;rw[hoi] at ho';injection ho' with ho'
   subst ho';intro ev w hS e1 e2 e3 e4 e5;have hd:∀j,cE ops i j=true→j<i:=by
    intro j hj;unfold cE at hj;rw[hoi] at hj;simp only[Option.map_some,Option.getD_some] at hj;rw[Array.any_eq_true'] at hj;obtain⟨x,hx,hx2⟩:=hj;rw[Bool.and_eq_true,beq_iff_eq] at hx2;have:=eG hf hoi hx hx2.1;omega
   have:=h1 ev w hS ⟨e1,e2,e3,fun j d m hm hj hdp=>by rw[e4 j d hj hdp,hVj j (hd j hdp),show i - 1 - j=m by omega],e5⟩;unfold kZ;cases hgu:o.guard with
   |none=>rw[hgu] at this;simp only at this ⊢;rw[hVi];exact this
   |some jw=>
    obtain⟨j,want⟩:=jw;rw[hgu] at this;have hji:j<i:=by
     have:=List.all_eq_true.1 hgb i (by simpa using hi);rw[hoi] at this;simp only[Option.bind_some,hgu] at this;exact of_decide_eq_true this
    simp only at this ⊢;rw[hVi,hVj j hji];exact this
  exact hk k o' e ho'
def DK(ops:Array Oper):Nat→List Nat→List Nat
 |0,acc=>acc
 |k+1,acc=>DK ops k (match acc.any fun a=>cE ops a k with|true=>k::acc|false=>acc)
def dJ(ops:Array Oper)(i:Nat):List Nat:=DK ops i [i]
theorem pA{ops:Array Oper}{L:Nat→Prop}(hC:Clo ops L):∀(k:Nat) (acc:List Nat),(∀a ∈ acc,L a)→∀a ∈ DK ops k acc,L a
 |0,acc,h,a,ha=>h a ha
 |k+1,acc,h,a,ha=>by
  unfold DK at ha;cases hb:acc.any fun a=>cE ops a k with
  |false=>rw[hb] at ha;exact pA hC k acc h a ha
  |true=>
   rw[hb] at ha;refine pA hC k (k::acc) (fun x hx=>?_) a ha;rcases List.mem_cons.1 hx with rfl|hx
   ·obtain⟨y,hy,hd⟩:=List.any_eq_true.1 hb;exact hC y x hd (h y hy)
   exact h x hx
theorem wX{ops:Array Oper}{L:Nat→Prop}(hC:Clo ops L){i k:Nat}(hk:(dJ ops i).contains k=true)(hi:L i):L k:=
 pA hC i [i] (fun a ha=>by rw[List.mem_singleton.1 ha];exact hi) k (List.contains_iff_mem.1 hk)
theorem lN{ops:Array Oper}{L:Nat→Prop}(hC:Clo ops L){i k:Nat}(hd:∀j,cE ops i j=true→L j)(hk:(dJ ops i).contains k=true):L k∨k=i:=by
 have hC':Clo ops (fun k=>L k∨k=i):=fun a b hab h=>by
  rcases h with h|h
  ·exact .inl (hC a b hab h)
  subst h;exact .inl (hd b hab)
 exact wX hC' hk (.inr rfl)
def uV(ops:Array Oper)(n:Nat):Bool:=(List.range ops.size).all fun k=>decide (k<n)||(List.range k).all fun j=>(dJ ops k).contains j
theorem pB{ops:Array Oper}{n:Nat}(h:uV ops n=true){k j:Nat}(hk:k<ops.size)(hn:n≤k)(hj:j<k):(dJ ops k).contains j=true:=by
 unfold uV at h;have h1:=List.all_eq_true.1 h k (by simpa using hk);rw[Bool.or_eq_true,decide_eq_true_iff] at h1;rcases h1 with h1|h1
 ·omega
 exact List.all_eq_true.1 h1 j (by simpa using hj)
theorem mK{ops:Array Oper}{listed:Array Bool}{i:Nat}(h:i ∈ Region.ready .any ops listed):∀j,cE ops i j=true→listed.getD j false=true:=by
 intro j hj;unfold cE at hj;cases ho:ops[i]? with
 |none=>rw[ho] at hj;cases hj
 |some o=>
  rw[ho] at hj;simp only[Option.map_some,Option.getD_some] at hj;rw[Array.any_eq_true'] at hj;obtain⟨e,he,h2⟩:=hj;rw[Bool.and_eq_true,beq_iff_eq] at h2;rw[←h2.2];exact(cD.1 h).2.2 o ho e he h2.1
theorem wY{ops:Array Oper}(hf:iP .any ops=true){i j:Nat}(h:cE ops i j=true):j<i:=by
 unfold cE at h;cases ho:ops[i]? with
 |none=>rw[ho] at h;cases h
 |some o=>
  rw[ho] at h;simp only[Option.map_some,Option.getD_some] at h;rw[Array.any_eq_true'] at h;obtain⟨e,he,h2⟩:=h;rw[Bool.and_eq_true,beq_iff_eq] at h2;rw[←h2.2];exact eG hf ho he h2.1
theorem pC{P:Program}{ops:Array Oper}{Q:Exit→Act→World→Prop}{n:Nat}(hf:iP .any ops=true)(ht:uV ops n=true):
  ∀(t k:Nat) (listed:Array Bool) (a:Act) (w:World),n≤k→k+t=ops.size→listed.size=ops.size→(∀j,j<ops.size→listed.getD j false=decide (j<k))→wpOps P ops Q (List.range' k t) a w→wpAny P .any ops Q t listed a w
 |0,k,listed,a,w,hk,hs,hl,hv,h=>by
  refine⟨?_,h⟩;rw[List.eq_nil_iff_forall_not_mem];intro i hi;obtain⟨h1,h2,_⟩:=cD.1 hi;have:=hv i h1;rw[bC (by omega)] at h2 this;rw[h2] at this;simp at this;omega
 |t+1,k,listed,a,w,hk,hs,hl,hv,h=>by
  have hkr:∀i ∈ Region.ready .any ops listed,i=k:=by
   intro i hi;obtain⟨h1,h2,h3⟩:=cD.1 hi;have h4:=hv i h1;rw[bC (by omega)] at h2 h4;rw[h2] at h4;have h4:¬i<k:=by simpa using h4.symm
   rcases Nat.lt_or_ge k i with h5|h5
   ·have hC:Clo ops (fun j=>j<k):=fun a b hab ha=>by have:=wY hf hab;show b<k;have:a<k:=ha;omega
    have hd:∀j,cE ops i j=true→j<k:=fun j hj=>by
     have h6:=mK hi j hj;have h7:=wY hf hj;rw[hv j (by omega)] at h6;simpa using h6
    rcases lN hC hd (pB ht h1 (by omega) h5) with h6|h6
    ·exact absurd h6 (Nat.lt_irrefl _)
    omega
   omega
  refine⟨fun hr=>?_,fun i hi=>?_⟩
  ·exfalso;have:k ∈ Region.ready .any ops listed:=cD.2 ⟨by omega,by have:=hv k (by omega);rw[bC (by omega)] at this ⊢;rw[this];simp,fun o ho e he hb=>by
    have:=eG hf ho he hb;rw[hv e.on (by omega)];simpa using this⟩
   rw[hr] at this;cases this
  obtain rfl:=hkr i hi;rw[List.range'_succ,wpOps_cons] at h;refine wpOp_mono (fun a' w' h'=>pC hf ht t (i+1) _ a' w' (by omega) (by omega) (by simpa using hl) (fun j hj=>?_) h') h;by_cases hji:j=i
  ·subst hji;rw[bC (by simp;omega)];simp
  have h5:=hv j hj;rw[bC (by omega)] at h5;rw[bC (by simp;omega),Array.getElem_setIfInBounds (by omega),if_neg (fun h=>hji h.symm),h5];rw[decide_eq_decide];omega
theorem lO{P:Program}{ops:Array Oper}{Q:Exit→Act→World→Prop}{n:Nat}(hn:n≤ops.size)(hf:iP .any ops=true)(ht:uV ops n=true)(hg:lD ops n=true):
  ∀(fuel:Nat) (front listed:Array Bool) (a:Act) (w:World),front.size=n→listed.size=ops.size→Clo ops (fun j=>listed.getD j false=true)→(∀j,j<ops.size→listed.getD j false=front.getD j false)→front.toList.count false=fuel→wpAny P .any (ops.extract 0 n) (nF P ops Q n (ops.size - n)) fuel front a w→wpAny P .any ops Q (fuel+(ops.size - n)) listed a w
 |fuel,front,listed,a,w,hs,hl,hcl,hv,hc,h=>by
  have hsz:(ops.extract 0 n).size=n:=by simp;omega
  have hgt:∀j,j<n→listed.getD j true=front.getD j true:=fun j hj=>by
   have:=hv j (by omega);rw[bC (by omega),bC (by omega)] at this;rw[bC (by omega),bC (by omega),this]
  have hrd:∀i,i ∈ Region.ready .any (ops.extract 0 n) front↔(i<n∧i ∈ Region.ready .any ops listed):=by
   exact GN
  cases fuel with
  |zero=>
   have hall:∀j,j<n→front.getD j false=true:=by
    intro j hj;rw[bC (by omega)];cases hl':front[j]'(by omega) with
    |true=>rfl
    |false=>
     exfalso;have:false ∈ front.toList:=by rw[←hl'];simp
     have:=List.count_pos_iff.2 this;omega
   rw[Nat.zero_add];refine pC hf ht (ops.size - n) n listed a w (Nat.le_refl _) (by omega) hl (fun j hj=>?_) h.2;rw[hv j hj];by_cases hj':j<n
   ·rw[hall j hj',decide_eq_true hj']
   rw[decide_eq_false hj'];simp only[Array.getD];rw[dif_neg (by omega)]
  |succ fuel=>
   obtain⟨h0,h1⟩:=h;rw[show fuel+1+(ops.size - n)=(fuel+(ops.size - n))+1 by omega];have hne:∃j,j<n∧front.getD j false=false:=by
    exact GM
   refine⟨fun hr=>?_,fun i hi=>?_⟩
   ·exfalso;have:∀j,j<n→front.getD j false=true:=by
     intro j;induction j using Nat.strongRecOn with
     |_ j ih=>
      intro hj;cases hq:front.getD j false with
      |true=>rfl
      |false=>
       exfalso;have:j ∈ Region.ready .any ops listed:=by
        refine cD.2 ⟨by omega,?_,fun o ho e he hb=>?_⟩
        ·rw[hgt j hj];rw[bC (by omega)] at hq ⊢;exact hq
        have h4:=eG hf ho he hb;rw[hv e.on (by omega)];exact ih e.on h4 (by omega)
       rw[hr] at this;cases this
    obtain⟨j,hj,hq⟩:=hne;rw[this j hj] at hq;cases hq
   have hi2:=cD.1 hi;have hin:i<n:=by
    rcases Nat.lt_or_ge i n with h'|h'
    ·exact h'
    exfalso;obtain⟨j,hj,hq⟩:=hne;rcases lN hcl (mK hi) (pB ht hi2.1 h' (show j<i by omega)) with h6|h6
    ·rw[hv j (by omega),hq] at h6;cases h6
    omega
   refine oZ hin hn hg (fun a' w' h'=>?_) (h1 i ((hrd i).2 ⟨hin,hi⟩));refine lO hn hf ht hg fuel (front.setIfInBounds i true) (listed.setIfInBounds i true) a' w' (by simpa using hs) (by simpa using hl) ?_ (fun j hj=>?_) ?_ h'
   ·intro x y hxy hx;have hlt:=wY hf hxy;have key:∀z,z<listed.size→((listed.setIfInBounds i true).getD z false=true↔(listed.getD z false=true∨z=i)):=fun z hz=>by
     rw[bC (by simp;omega),bC hz,Array.getElem_setIfInBounds hz];by_cases e:i=z
     ·simp[e]
     rw[if_neg e];constructor
     ·exact .inl
     rintro(h|h)
     ·exact h
     exact absurd h.symm e
    have hxs:x<listed.size:=by
     rcases Nat.lt_or_ge x listed.size with h'|h'
     ·exact h'
     exfalso;have hx':(listed.setIfInBounds i true).getD x false=true:=hx;simp only[Array.getD,Array.size_setIfInBounds] at hx';rw[dif_neg (by omega)] at hx';cases hx'
    show(listed.setIfInBounds i true).getD y false=true;rw[key y (by omega)];rcases(key x hxs).1 hx with h'|h'
    ·exact .inl (hcl x y hxy h')
    subst h';exact .inl (mK hi y hxy)
   ·by_cases hjn:j<n
    ·rw[bC (by simp;omega),bC (by simp;omega),Array.getElem_setIfInBounds,Array.getElem_setIfInBounds];split
     ·rfl
     have:=hv j hj;rw[bC (by omega),bC (by omega)] at this;exact this
    have:=hv j hj;rw[bC (by omega)] at this;rw[bC (by simp;omega),Array.getElem_setIfInBounds (by omega),if_neg (by omega),this];simp only[Array.getD,Array.size_setIfInBounds];rw[dif_neg (by omega),dif_neg (by omega)]
   have h4:=nW front.toList i (by
    have h5:=hi2.2.1;rw[hgt i hin,bC (by omega)] at h5;simp[List.getD,show i<front.size by omega,h5])
   rw[Array.toList_setIfInBounds];omega
def bF:List (Option Tmp)→List Value→Act→Act
 |d::ds,v::vs,a=>(bF ds vs a).put d v
 |_,_,a=>a
theorem sV(ops:Array Oper)(V:Nat→Value)(a:Act):∀(n:Nat) (ws:List Value),ws.length=n→(∀j,j<n→V j=aG ws (n - 1 - j))→aZ ops V n a=bF ((List.range n).map (bE ops)).reverse ws a
 |0,[],_,_=>rfl
 |n+1,v::ws,hl,hV=>by
  have hVn:V n=v:=by rw[hV n (by omega)];simp[aG]
  rw[List.range_succ,List.map_append,List.map_cons,List.map_nil,List.reverse_append,List.reverse_cons,List.reverse_nil,List.nil_append,List.singleton_append];show(aZ ops V n a).put (bE ops n) (V n)=(bF _ ws a).put (bE ops n) v;rw[hVn,sV ops V a n ws (by simpa using hl) (fun j hj=>by rw[hV j (by omega),show n+1 - 1 - j=(n - 1 - j)+1 by omega];rfl)]
def fxB(ops:Array Oper)(n N:Nat):Bool:=
 let F:=(ops.toList.take n).toArray
 decide (n≤ops.size)&&(iP .any ops&&(uV ops n&&(lD ops n&&(oU F&&(iP .any F&&(zQ F N&&(((List.range F.size).all fun i=>match (F[i]?).bind (·.guard) with|some (j,_)=>cE F i j&&(bE F j).isSome|none=>true)&&((List.range F.size).all fun i=>match (F[i]?).bind (·.guard) with|some (j,_)=>decide (j<i)|none=>true))))))))
theorem aL{P:Program}{ops:Array Oper}{Q:Exit→Act→World→Prop}(S:World→Prop){id:Nat}{a0:Act}{w:World}(n N:Nat)(dsts:List (Option Tmp))(hm:P.follows .mixedOrders=true)(hB:fxB ops n N=true)(hD:((List.range n).map (bE (ops.toList.take n).toArray)).reverse=dsts)(hN:N≤a0.tmps.size)(h0:S w.drew)
  (h:FxL P (ops.toList.take n).toArray S a0 (fun vs W=>wpList P ops Q (ops.toList.drop n) (bF dsts vs a0) W) (ops.toList.take n) 0 []):(Code.region id ops true).wp P Q a0 w:=by
 unfold fxB at hB;simp only[Bool.and_eq_true] at hB;obtain⟨b1,b2,b3,b4,b5,b6,b7,b8,b9⟩:=hB;have hn:n≤ops.size:=of_decide_eq_true b1;have hsz:(ops.toList.take n).toArray.size=n:=by simp;omega
 obtain⟨V,_,hk,ws,hws,hVw,hK⟩:=FxL.spec b6 b9 (ops.toList.take n) 0 [] (Nat.zero_le _) (by simp) rfl h;refine wp_region_any hm ?_;have h1:wpAny P .any (ops.extract 0 n) (nF P ops Q n (ops.size - n)) n (Array.replicate n false) a0 w.drew:=by
  rw[uR,uS];have:=zR (P:=P) (md:=.any) rfl (ops:=(ops.toList.take n).toArray) (Q:=lE P ops Q n) (a0:=a0) (w:=w.drew) V S N b5 b6 b7 hN h0 b8 (fun i hi ev w hS e1 e2 e3 e4 e5 o ho=>hk i o (Nat.zero_le _) ho ev w hS e1 e2 e3 e4 e5) (fun W hW=>by
   rw[sV _ V a0 _ ws hws hVw,hsz,hD];exact hK W hW)
  rw[hsz] at this;exact this
 have h2:=lO hn b2 b3 b4 n (Array.replicate n false) (Array.replicate ops.size false) a0 w.drew (by simp) (by simp) (fun x y _ hx=>by
  exfalso;simp only[Array.getD] at hx;split at hx<;>simp at hx) (fun j hj=>by
  simp only[Array.getD];split<;>split<;>simp) (by simp[List.count_replicate]) h1
 rw[show n+(ops.size - n)=ops.size by omega] at h2;exact h2
section
variable {P:Program} {ops:Array Oper} {S C:World→Prop} {a0:Act} {K:List Value→World→Prop} {o:Oper} {r:List Oper} {i:Nat} {vs:List Value} {v u g:Value} {f:FuncId} {args:Array Value} {j:Nat} {want:Bool}
def mL(ops:Array Oper)(i:Nat)(l:List (Nat × Nat × Nat))(q:List Nat):Bool:=l.all (fun x=>x.2.1+x.1+1 == i&&(bE ops x.2.1 == some x.2.2&&cE ops i x.2.1))&&q.all (fF ops)
theorem FxL.p(l:List (Nat × Nat × Nat))(q:List Nat)(hr:FxL P ops S a0 K r (i+1) (v::vs))(hg:o.guard=none:=by rfl)(hE:mL ops i l q=true:=by kernel_rfl)
  (h:∀ev w,evT ev vs l (evU ev a0 q (evC ev))→(execOp ev o).run P w= .ok (.value v) w:=by(intro ev w E;simp only[evT,evU,evC,aG] at E;go_simp;try with_reducible rfl)):FxL P ops S a0 K (o::r) i vs:=
 FxL.pure hg (fun ev w _ E=>h ev w (E.get l q hE)) hr
theorem FxL.q(HF:∀w,S w→C w)(l:List (Nat × Nat × Nat))(q:List Nat)(hr:FxL P ops S a0 K r (i+1) (v::vs))(hg:o.guard=none:=by rfl)(hE:mL ops i l q=true:=by kernel_rfl)
  (h:∀ev w,C w→evT ev vs l (evU ev a0 q (evC ev))→(execOp ev o).run P w= .ok (.value v) w:=by(intro ev w hC E;(try dsimp only at hC);simp only[evT,evU,evC,aG] at E;go_simp;try with_reducible rfl)):FxL P ops S a0 K (o::r) i vs:=
 FxL.pure hg (fun ev w hS E=>h ev w (HF w hS) (E.get l q hE)) hr
theorem FxL.gp(m:Nat)(l:List (Nat × Nat × Nat))(q:List Nat)(hr:FxL P ops S a0 K r (i+1) (v::vs))(hg:o.guard=some (j,want):=by rfl)(hm:j+m+1=i:=by rfl)(hj:aG vs m= .bool want:=by rfl)(hE:mL ops i l q=true:=by kernel_rfl)
  (h:∀ev w,evT ev vs l (evU ev a0 q (evC ev))→(execOp ev o).run P w= .ok (.value v) w:=by(intro ev w E;simp only[evT,evU,evC,aG] at E;go_simp;try with_reducible rfl)):FxL P ops S a0 K (o::r) i vs:=
 FxL.gpure hg m hm hj (fun ev w _ E=>h ev w (E.get l q hE)) hr
theorem FxL.gq(HF:∀w,S w→C w)(m:Nat)(l:List (Nat × Nat × Nat))(q:List Nat)(hr:FxL P ops S a0 K r (i+1) (v::vs))(hg:o.guard=some (j,want):=by rfl)(hm:j+m+1=i:=by rfl)(hj:aG vs m= .bool want:=by rfl)(hE:mL ops i l q=true:=by kernel_rfl)
  (h:∀ev w,C w→evT ev vs l (evU ev a0 q (evC ev))→(execOp ev o).run P w= .ok (.value v) w:=by(intro ev w hC E;(try dsimp only at hC);simp only[evT,evU,evC,aG] at E;go_simp;try with_reducible rfl)):FxL P ops S a0 K (o::r) i vs:=
 FxL.gpure hg m hm hj (fun ev w hS E=>h ev w (HF w hS) (E.get l q hE)) hr
theorem FxL.x(m:Nat)(l:List (Nat × Nat × Nat))(q:List Nat)(hr:FxL P ops S a0 K r (i+1) (gwV g want u::vs))(hg:o.guard=some (j,want):=by rfl)(hm:j+m+1=i:=by rfl)(hgv:aG vs m=g:=by(simp only[aG]<;>rfl))(hE:mL ops i l q=true:=by kernel_rfl)
  (h:g= .bool want→∀ev w,evT ev vs l (evU ev a0 q (evC ev))→(execOp ev o).run P w= .ok (.value u) w:=by(intro hg ev w E;simp only[evT,evU,evC,aG] at E;(try simp only[hg,bG] at E);go_simp;try with_reducible rfl)):FxL P ops S a0 K (o::r) i vs:=
 FxL.gw hg m hm hgv (fun hh ev w _ E=>h hh ev w (E.get l q hE)) hr
theorem FxL.xq(HF:∀w,S w→C w)(m:Nat)(l:List (Nat × Nat × Nat))(q:List Nat)(hr:FxL P ops S a0 K r (i+1) (gwV g want u::vs))(hg:o.guard=some (j,want):=by rfl)(hm:j+m+1=i:=by rfl)(hgv:aG vs m=g:=by(simp only[aG]<;>rfl))(hE:mL ops i l q=true:=by kernel_rfl)
  (h:g= .bool want→∀ev w,C w→evT ev vs l (evU ev a0 q (evC ev))→(execOp ev o).run P w= .ok (.value u) w:=by(intro hg ev w hC E;(try dsimp only at hC);simp only[evT,evU,evC,aG] at E;(try simp only[hg,bG] at E);go_simp;try with_reducible rfl)):FxL P ops S a0 K (o::r) i vs:=
 FxL.gw hg m hm hgv (fun hh ev w hS E=>h hh ev w (HF w hS) (E.get l q hE)) hr
theorem FxL.c(l:List (Nat × Nat × Nat))(q:List Nat)(hc:∀w,S w→Calls P f args w fun e w''=>e= .returned v∧Fr none w w'')(hr:FxL P ops S a0 K r (i+1) (v::vs))(hp:∀w w',S w→Fr none w w'→S w':=by(intro w w' hS F;exact hS.pure F))(hg:o.guard=none:=by rfl)(hE:mL ops i l q=true:=by kernel_rfl)
  (h:∀ev w,evT ev vs l (evU ev a0 q (evC ev))→(execOp ev o).run P w= .ok (.enter f args) w:=by(intro ev w E;simp only[evT,evU,evC,aG] at E;go_simp;try first|(refine And.intro ?_ ?_<;>with_reducible rfl)|with_reducible rfl|rfl|(refine And.intro ?_ ?_<;>rfl))):FxL P ops S a0 K (o::r) i vs:=
 FxL.call hg (fun ev w _ E=>h ev w (E.get l q hE)) (fun w hS=>(hc w hS).mono fun _ _ hh=>⟨hh.1,hp _ _ hS hh.2⟩) hr
end
def phS:List (World→Prop)→Nat→World→Prop
 |[],_=>fun _=>True
 |s::_,0=>s
 |_::r,n+1=>phS r n
theorem phG{G:World→Prop}:∀{l:List (World→Prop)},(∀s ∈ l,∀W,s W→G W)→∀p,p<l.length→∀W,phS l p W→G W
 |[],_,p,hp,_,_=>absurd hp (by simp)
 |s::r,h,0,_,W,hW=>h s (by simp) W hW
 |s::r,h,p+1,hp,W,hW=>phG (l:=r) (fun t ht=>h t (List.mem_cons_of_mem _ ht)) p (by simpa using hp) W hW
def FG(P:Program)(G:World→Prop)(S:Nat→World→Prop)(st wd:List Nat)(i:Nat)(o:Oper)(v:Value)(E:(Operand→Value)→Prop)(gv:Nat→Value):Prop:=
 (st.contains i=false∧∀ev w,G w→E ev→match o.guard with
   |none=>(execOp ev o).run P w= .ok (.value v) w
   |some (j,want)=>(gv j= .bool want→(execOp ev o).run P w= .ok (.value v) w)∧(gv j≠ .bool want→v=undef))∨
 (wd.contains i=true∧∀ev w,S 0 w→E ev→match o.guard with
   |none=>oV P v (S 0) o ev w
   |some (j,want)=>(gv j= .bool want→oV P v (S 0) o ev w)∧(gv j≠ .bool want→v=undef))∨
 (∃q,st[q]?=some i∧v=undef∧o.guard=none∧∀ev w,S q w→E ev→∃w',(execOp ev o).run P w= .ok .skip w'∧S (q+1) w')
def FxM(P:Program)(ops:Array Oper)(G:World→Prop)(S:Nat→World→Prop)(st wd:List Nat)(a0:Act)(K:List Value→World→Prop):List Oper→Nat→List Value→Prop
 |[],_,vs=>∀W,S st.length W→K vs W
 |o::r,i,vs=>∃v,FG P G S st wd i o v (fun ev=>iB ops a0 i vs ev) (fun j=>aG vs (i - 1 - j))∧FxM P ops G S st wd a0 K r (i+1) (v::vs)
section
variable {P:Program} {ops:Array Oper} {G:World→Prop} {S:Nat→World→Prop} {st wd:List Nat} {a0:Act} {K:List Value→World→Prop} {o:Oper} {r:List Oper} {i:Nat} {vs:List Value} {v:Value} {f:FuncId} {args:Array Value} {j:Nat} {want:Bool}
theorem FxM.done(h:∀W,S st.length W→K vs W):FxM P ops G S st wd a0 K [] i vs:=h
theorem FxM.pure(hg:o.guard=none)(hs:st.contains i=false)(h:∀ev w,G w→iB ops a0 i vs ev→(execOp ev o).run P w= .ok (.value v) w)(hr:FxM P ops G S st wd a0 K r (i+1) (v::vs)):FxM P ops G S st wd a0 K (o::r) i vs:=
 ⟨v,.inl ⟨hs,fun ev w hG E=>by rw[hg];exact h ev w hG E⟩,hr⟩
theorem FxM.gpure(hg:o.guard=some (j,want))(m:Nat)(hm:j+m+1=i)(hj:aG vs m= .bool want)(hs:st.contains i=false)(h:∀ev w,G w→iB ops a0 i vs ev→(execOp ev o).run P w= .ok (.value v) w)(hr:FxM P ops G S st wd a0 K r (i+1) (v::vs)):FxM P ops G S st wd a0 K (o::r) i vs:=
 ⟨v,.inl ⟨hs,fun ev w hG E=>by rw[hg];exact⟨fun _=>h ev w hG E,fun hh=>absurd (show aG vs (i - 1 - j)= .bool want by rw[show i - 1 - j=m by omega];exact hj) hh⟩⟩,hr⟩
theorem FxM.skip(hg:o.guard=some (j,want))(m:Nat)(hm:j+m+1=i)(hj:aG vs m≠ .bool want)(hs:st.contains i=false)(hr:FxM P ops G S st wd a0 K r (i+1) (undef::vs)):FxM P ops G S st wd a0 K (o::r) i vs:=
 ⟨undef,.inl ⟨hs,fun ev w _ E=>by rw[hg];exact⟨fun hh=>absurd hh (show aG vs (i - 1 - j)≠ .bool want by rw[show i - 1 - j=m by omega];exact hj),fun _=>rfl⟩⟩,hr⟩
theorem FxM.load(hg:o.guard=none)(hw:wd.contains i=true)(h:∀ev w,S 0 w→iB ops a0 i vs ev→(execOp ev o).run P w= .ok (.value v) w)(hr:FxM P ops G S st wd a0 K r (i+1) (v::vs)):FxM P ops G S st wd a0 K (o::r) i vs:=
 ⟨v,.inr (.inl ⟨hw,fun ev w hS E=>by rw[hg];exact .inl ⟨w,h ev w hS E,hS⟩⟩),hr⟩
theorem FxM.gload(hg:o.guard=some (j,want))(m:Nat)(hm:j+m+1=i)(hj:aG vs m= .bool want)(hw:wd.contains i=true)(h:∀ev w,S 0 w→iB ops a0 i vs ev→(execOp ev o).run P w= .ok (.value v) w)(hr:FxM P ops G S st wd a0 K r (i+1) (v::vs)):FxM P ops G S st wd a0 K (o::r) i vs:=
 ⟨v,.inr (.inl ⟨hw,fun ev w hS E=>by rw[hg];exact⟨fun _=>.inl ⟨w,h ev w hS E,hS⟩,fun hh=>absurd (show aG vs (i - 1 - j)= .bool want by rw[show i - 1 - j=m by omega];exact hj) hh⟩⟩),hr⟩
theorem FxM.call(hg:o.guard=none)(hw:wd.contains i=true)(h:∀ev w,S 0 w→iB ops a0 i vs ev→(execOp ev o).run P w= .ok (.enter f args) w)(hc:∀w,S 0 w→Calls P f args w fun e w''=>e= .returned v∧S 0 w'')(hr:FxM P ops G S st wd a0 K r (i+1) (v::vs)):FxM P ops G S st wd a0 K (o::r) i vs:=
 ⟨v,.inr (.inl ⟨hw,fun ev w hS E=>by rw[hg];exact .inr ⟨f,args,w,h ev w hS E,hc w hS⟩⟩),hr⟩
theorem FxM.gcall(hg:o.guard=some (j,want))(m:Nat)(hm:j+m+1=i)(hj:aG vs m= .bool want)(hw:wd.contains i=true)(h:∀ev w,S 0 w→iB ops a0 i vs ev→(execOp ev o).run P w= .ok (.enter f args) w)(hc:∀w,S 0 w→Calls P f args w fun e w''=>e= .returned v∧S 0 w'')(hr:FxM P ops G S st wd a0 K r (i+1) (v::vs)):FxM P ops G S st wd a0 K (o::r) i vs:=
 ⟨v,.inr (.inl ⟨hw,fun ev w hS E=>by rw[hg];exact⟨fun _=>.inr ⟨f,args,w,h ev w hS E,hc w hS⟩,fun hh=>absurd (show aG vs (i - 1 - j)= .bool want by rw[show i - 1 - j=m by omega];exact hj) hh⟩⟩),hr⟩
theorem FxM.gw{u g:Value}(hg:o.guard=some (j,want))(m:Nat)(hm:j+m+1=i)(hgv:aG vs m=g)(hs:st.contains i=false)(h:g= .bool want→∀ev w,G w→iB ops a0 i vs ev→(execOp ev o).run P w= .ok (.value u) w)(hr:FxM P ops G S st wd a0 K r (i+1) (gwV g want u::vs)):FxM P ops G S st wd a0 K (o::r) i vs:=
 ⟨_,.inl ⟨hs,fun ev w hG E=>by
  rw[hg];have e:aG vs (i - 1 - j)=g:=by rw[show i - 1 - j=m by omega];exact hgv
  simp only[e];exact⟨fun hh=>by rw[hh,bG];exact h hh ev w hG E,fun hh=>jS hh⟩⟩,hr⟩
theorem FxM.gwl{u g:Value}(hg:o.guard=some (j,want))(m:Nat)(hm:j+m+1=i)(hgv:aG vs m=g)(hw:wd.contains i=true)(h:g= .bool want→∀ev w,S 0 w→iB ops a0 i vs ev→(execOp ev o).run P w= .ok (.value u) w)(hr:FxM P ops G S st wd a0 K r (i+1) (gwV g want u::vs)):FxM P ops G S st wd a0 K (o::r) i vs:=
 ⟨_,.inr (.inl ⟨hw,fun ev w hS E=>by
  rw[hg];have e:aG vs (i - 1 - j)=g:=by rw[show i - 1 - j=m by omega];exact hgv
  simp only[e];exact⟨fun hh=>.inl ⟨w,by rw[hh,bG];exact h hh ev w hS E,hS⟩,fun hh=>jS hh⟩⟩),hr⟩
theorem FxM.gwc{u g:Value}(hg:o.guard=some (j,want))(m:Nat)(hm:j+m+1=i)(hgv:aG vs m=g)(hw:wd.contains i=true)(h:g= .bool want→∀ev w,S 0 w→iB ops a0 i vs ev→(execOp ev o).run P w= .ok (.enter f args) w)(hc:g= .bool want→∀w,S 0 w→Calls P f args w fun e w''=>e= .returned u∧S 0 w'')(hr:FxM P ops G S st wd a0 K r (i+1) (gwV g want u::vs)):FxM P ops G S st wd a0 K (o::r) i vs:=
 ⟨_,.inr (.inl ⟨hw,fun ev w hS E=>by
  rw[hg];have e:aG vs (i - 1 - j)=g:=by rw[show i - 1 - j=m by omega];exact hgv
  simp only[e];exact⟨fun hh=>.inr ⟨f,args,w,h hh ev w hS E,by rw[hh,bG];exact hc hh w hS⟩,fun hh=>jS hh⟩⟩),hr⟩
theorem FxM.por{a b:Nat}{e d:Bool}(hg:o.guard=none)(hs:st.contains i=false)(hop:o.op= .pick (.tmp a) (.const (.bool true)) (.tmp b))(ma ja mb jb:Nat)(hE:([(ma,ja,a),(mb,jb,b)].all (fun x=>x.2.1+x.1+1 == i&&(bE ops x.2.1 == some x.2.2&&cE ops i x.2.1))&&[].all (fF ops))=true)
  (ha:aG vs ma= .bool e) (hb:aG vs mb=gwV (.bool e) false (.bool d)) (hr:FxM P ops G S st wd a0 K r (i+1) (.bool (e||d)::vs)):FxM P ops G S st wd a0 K (o::r) i vs:=
 FxM.pure hg hs (fun ev w _ E=>by
  obtain⟨h1,h2,h3, -⟩:=E.get _ _ hE;rw[dL hop (h1.trans ha),h3,h2,hb];cases e<;>rfl) hr
theorem FxM.pand{a b:Nat}{e d:Bool}(hg:o.guard=none)(hs:st.contains i=false)(hop:o.op= .pick (.tmp a) (.tmp b) (.const (.bool false)))(ma ja mb jb:Nat)(hE:([(ma,ja,a),(mb,jb,b)].all (fun x=>x.2.1+x.1+1 == i&&(bE ops x.2.1 == some x.2.2&&cE ops i x.2.1))&&[].all (fF ops))=true)
  (ha:aG vs ma= .bool e) (hb:aG vs mb=gwV (.bool e) true (.bool d)) (hr:FxM P ops G S st wd a0 K r (i+1) (.bool (e&&d)::vs)):FxM P ops G S st wd a0 K (o::r) i vs:=
 FxM.pure hg hs (fun ev w _ E=>by
  obtain⟨h1,h2,h3, -⟩:=E.get _ _ hE;rw[dL hop (h1.trans ha),h3,h2,hb];cases e<;>rfl) hr
theorem FxM.store(q:Nat)(hq:st[q]?=some i)(hg:o.guard=none)(h:∀ev w,S q w→iB ops a0 i vs ev→∃w',(execOp ev o).run P w= .ok .skip w'∧S (q+1) w')(hr:FxM P ops G S st wd a0 K r (i+1) (undef::vs)):FxM P ops G S st wd a0 K (o::r) i vs:=
 ⟨undef,.inr (.inr ⟨q,hq,rfl,hg,h⟩),hr⟩
end
theorem FxM.spec{P:Program}{ops:Array Oper}{G:World→Prop}{S:Nat→World→Prop}{st wd:List Nat}{a0:Act}{K:List Value→World→Prop}(hf:iP .any ops=true)(hgb:((List.range ops.size).all fun i=>match (ops[i]?).bind (·.guard) with|some (j,_)=>decide (j<i)|none=>true)=true):
  ∀(l:List Oper) (i:Nat) (vs:List Value),i≤ops.size→ops.toList.drop i=l→vs.length=i→FxM P ops G S st wd a0 K l i vs→
   ∃V:Nat→Value,(∀j,j<i→V j=aG vs (i - 1 - j))∧(∀k o,i≤k→ops[k]?=some o→FG P G S st wd k o (V k) (fun ev=>(∀v,ev (.const v)=v)∧(∀f,ev (.func f)= .func (.func f) #[] #[])∧(∀g,ev (.global g)= .pointer (some ⟨g,0,none⟩))∧(∀j d,bE ops j=some d→cE ops k j=true→ev (.tmp d)=V j)∧(∀t,fF ops t=true→ev (.tmp t)=a0.eval (.tmp t))) V)∧(∃ws:List Value,ws.length=ops.size∧(∀j,j<ops.size→V j=aG ws (ops.size - 1 - j))∧∀W,S st.length W→K ws W)
 |[],i,vs,hle,hl,hv,h=>by
  have hi:i=ops.size:=by
   have:=congrArg List.length hl;simp at this;omega
  subst hi;refine⟨fun j=>aG vs (ops.size - 1 - j),fun j _=>rfl,fun k o hk ho=>?_,vs,hv,fun j _=>rfl,h⟩;rw[Array.getElem?_eq_none (by omega)] at ho;cases ho
 |o::r,i,vs,hle,hl,hv,h=>by
  obtain⟨v,h1,h2⟩:=h;have hoi:ops[i]?=some o:=by
   have:=congrArg (fun l=>l[0]?) hl;simpa using this
  have hi:i<ops.size:=by
   rcases Nat.lt_or_ge i ops.size with h'|h'
   ·exact h'
   rw[Array.getElem?_eq_none h'] at hoi;cases hoi
  have hl':ops.toList.drop (i+1)=r:=by
   rw[←List.tail_drop,hl];rfl
  obtain⟨V,hV,hk,hw⟩:=FxM.spec hf hgb r (i+1) (v::vs) (by omega) hl' (by simp[hv]) h2;have hVi:V i=v:=by
   rw[hV i (by omega)];simp[aG]
  have hVj:∀j,j<i→V j=aG vs (i - 1 - j):=fun j hj=>by
   rw[hV j (by omega),show i+1 - 1 - j=(i - 1 - j)+1 by omega];rfl
  refine⟨V,hVj,fun k o' hik ho'=>?_,hw⟩;rcases Nat.eq_or_lt_of_le hik with e|e
  ·subst e;rw[hoi] at ho';injection ho' with ho'
   subst ho';have hd:∀j,cE ops i j=true→j<i:=by
    intro j hj;unfold cE at hj;rw[hoi] at hj;simp only[Option.map_some,Option.getD_some] at hj;rw[Array.any_eq_true'] at hj;obtain⟨x,hx,hx2⟩:=hj;rw[Bool.and_eq_true,beq_iff_eq] at hx2;have:=eG hf hoi hx hx2.1;omega
   have hE:∀ev:Operand→Value,((∀v,ev (.const v)=v)∧(∀f,ev (.func f)= .func (.func f) #[] #[])∧(∀g,ev (.global g)= .pointer (some ⟨g,0,none⟩))∧(∀j d,bE ops j=some d→cE ops i j=true→ev (.tmp d)=V j)∧(∀t,fF ops t=true→ev (.tmp t)=a0.eval (.tmp t)))→iB ops a0 i vs ev:=
    fun ev e=>⟨e.1,e.2.1,e.2.2.1,fun j d m hm hj hdp=>by rw[e.2.2.2.1 j d hj hdp,hVj j (hd j hdp),show i - 1 - j=m by omega],e.2.2.2.2⟩
   have hgj:∀j want,o.guard=some (j,want)→V j=aG vs (i - 1 - j):=fun j want hgu=>by
    have:=List.all_eq_true.1 hgb i (by simpa using hi);rw[hoi] at this;simp only[Option.bind_some,hgu] at this;exact hVj j (of_decide_eq_true this)
   rw[hVi];rcases h1 with⟨hs1,h1⟩|⟨hw1,h1⟩|⟨q,hq,hv',hgn,h1⟩
   ·refine .inl ⟨hs1,fun ev w hG e=>?_⟩;have:=h1 ev w hG (hE ev e);cases hgu:o.guard with
    |none=>rw[hgu] at this;exact this
    |some jw=>
     obtain⟨j,want⟩:=jw;rw[hgu] at this;simp only at this ⊢;rw[hgj j want hgu];exact this
   ·refine .inr (.inl ⟨hw1,fun ev w hS e=>?_⟩);have:=h1 ev w hS (hE ev e);cases hgu:o.guard with
    |none=>rw[hgu] at this;exact this
    |some jw=>
     obtain⟨j,want⟩:=jw;rw[hgu] at this;simp only at this ⊢;rw[hgj j want hgu];exact this
   exact .inr (.inr ⟨q,hq,hv',hgn,fun ev w hS e=>h1 ev w hS (hE ev e)⟩)
  exact hk k o' e ho'
theorem pK{P:Program}{ops:Array Oper}{Q:Exit→Act→World→Prop}{V:Nat→Value}{S:World→Prop}{i:Nat}{o:Oper}{a:Act}{w:World}{K:Act→World→Prop}(ho:ops[i]?=some o)(hy:∀j want,o.guard=some (j,want)→(yielded ops a.tmps j=some want↔V j= .bool want))
  (hg:kZ P V S i o a.eval w) (hK:∀w',S w'→K (a.put (bE ops i) (V i)) w') (w0:World) (_:w0=w) (hS:S w):wpOp P ops Q i K a w:=by
 unfold kZ at hg;cases hgu:o.guard with
 |none=>
  rw[hgu] at hg;exact kM ho (by unfold Region.wanted;rw[hgu]) hg hK
 |some jw=>
  obtain⟨j,want⟩:=jw;rw[hgu] at hg;by_cases hvw:V j= .bool want
  ·exact kM ho (by unfold Region.wanted;rw[hgu];simp only;rw[(hy j want hgu).2 hvw];simp) (hg.1 hvw) hK
  have hw:Region.wanted o (yielded ops a.tmps)=false:=by
   unfold Region.wanted;rw[hgu];simp only;rw[beq_eq_false_iff_ne];exact fun h=>hvw ((hy j want hgu).1 h)
  unfold wpOp;simp only[ho];rw[if_neg (by rw[hw];simp)];have hdst:bE ops i=o.dst:=by unfold bE;rw[ho];rfl
  rw[←hdst,←hg.2 hvw];exact hK w hS
def mxB(ops:Array Oper)(st wd:List Nat)(N:Nat):Bool:=
 iP .any ops&&(oU ops&&(zQ ops N&&(((List.range ops.size).all fun i=>match (ops[i]?).bind (·.guard) with|some (j,_)=>cE ops i j&&(bE ops j).isSome|none=>true)&&(((List.range ops.size).all fun i=>match (ops[i]?).bind (·.guard) with|some (j,_)=>decide (j<i)|none=>true)&&
 (((List.range st.length).all fun q=>(List.range q).all fun p=>match st[q]?,st[p]? with|some a,some b=>(dJ ops a).contains b&&decide (b<a)|_,_=>false)&&((st.all fun s=>decide (s<ops.size))&&(st.all fun s=>wd.all fun k=>(dJ ops s).contains k&&k !=s)))))))
theorem bZ{P:Program}{ops:Array Oper}{Q:Exit→Act→World→Prop}(G:World→Prop)(S:Nat→World→Prop){id:Nat}{a0:Act}{w:World}(st wd:List Nat)(N:Nat)(dsts:List (Option Tmp))(hm:P.follows .mixedOrders=true)(hB:mxB ops st wd N=true)(hD:((List.range ops.size).map (bE ops)).reverse=dsts)(hN:N≤a0.tmps.size)(h0:S 0 w.drew)(hG:∀p,p≤st.length→∀W,S p W→G W)
  (h:FxM P ops G S st wd a0 (fun vs W=>Q .normal (bF dsts vs a0) W) ops.toList 0 []):(Code.region id ops true).wp P Q a0 w:=by
 unfold mxB at hB;simp only[Bool.and_eq_true] at hB;obtain⟨hf,hd,hn,hgd,hgb,hst,hsz,hsw⟩:=hB;obtain⟨V,_,hk,ws,hws,hVw,hK⟩:=FxM.spec hf hgb ops.toList 0 [] (Nat.zero_le _) (by simp) rfl h;have hdep:∀{i j:Nat} {o:Oper},ops[i]?=some o→cE ops i j=true→∃e ∈ o.after,Region.binds .any e=true∧e.on=j:=by
  intro i j o ho h;unfold cE at h;rw[ho] at h;simp only[Option.map_some,Option.getD_some] at h;rw[Array.any_eq_true'] at h;obtain⟨e,he,h2⟩:=h;rw[Bool.and_eq_true,beq_iff_eq] at h2;exact⟨e,he,h2⟩
 have hlt:∀j d,bE ops j=some d→j<ops.size:=by
  intro j d hj;rcases Nat.lt_or_ge j ops.size with h'|h'
  ·exact h'
  unfold bE at hj;rw[Array.getElem?_eq_none h'] at hj;cases hj
 have hord:∀(q p a b:Nat),p<q→st[q]?=some a→st[p]?=some b→(dJ ops a).contains b=true∧b<a:=by
  intro q p a b hpq ha hb;have hq:q<st.length:=(List.getElem?_eq_some_iff.1 ha).1;have h1:=List.all_eq_true.1 hst q (by simpa using hq);have h2:=List.all_eq_true.1 h1 p (by simpa using hpq);rw[ha,hb] at h2;simp only[Bool.and_eq_true,decide_eq_true_iff] at h2;exact h2
 refine iH (fun L ys w=>Clo ops L∧(∀j,j<ops.size→L j→ys j=V j)∧∃p,p≤st.length∧(∀(q:Nat) s,q<p→st[q]?=some s→L s)∧(∀(q:Nat) s,p≤q→st[q]?=some s→¬L s)∧S p w) (fun ys=>aZ ops ys ops.size a0) hm hd hf (fun _=>rfl)
  (fun ys=>⟨fun _ _ _ h=>h.elim,fun _ _ h=>h.elim,0,Nat.zero_le _,fun q s h=>absurd h (by omega),fun _ _ _ _ h=>h,h0⟩) ?_ ?_
 ·rintro L ys w i ⟨hC,hV,p,hp,hp1,hp2,hS⟩ hi hL hdp;obtain⟨o,ho⟩:∃o,ops[i]?=some o:=⟨ops[i],by simp[hi]⟩;have hdj:∀j,cE ops i j=true→L j:=fun j hj=>by
   obtain⟨e,he,hb,hej⟩:=hdep ho hj;rw[←hej];exact hdp o ho e he hb
  have hC':Clo ops (fun k=>L k∨k=i):=fun a b hab h=>by
   rcases h with h|h
   ·exact .inl (hC a b hab h)
   subst h;exact .inl (hdj b hab)
  have hin:∀j d,bE ops j=some d→d<a0.tmps.size:=by
   exact DJ
  have hEv:(∀v,(aZ ops ys ops.size a0).eval (.const v)=v)∧(∀f,(aZ ops ys ops.size a0).eval (.func f)= .func (.func f) #[] #[])∧(∀g,(aZ ops ys ops.size a0).eval (.global g)= .pointer (some ⟨g,0,none⟩))∧(∀j d,bE ops j=some d→cE ops i j=true→(aZ ops ys ops.size a0).eval (.tmp d)=V j)∧(∀t,fF ops t=true→(aZ ops ys ops.size a0).eval (.tmp t)=a0.eval (.tmp t)):=
   ⟨fun _=>rfl,fun _=>rfl,fun _=>rfl,fun j d hj hdb=>by rw[kL ops ys hd j d hj ops.size a0 (hlt j d hj) (hin j d hj),hV j (hlt j d hj) (hdj j hdb)],fun t ht=>jR ops ys t ops.size a0 (fun j hj=>by
    unfold fF at ht;have:=List.all_eq_true.1 ht j (by simpa using hj);simpa using this)⟩
  have hupd:∀j,j<ops.size→(L j∨j=i)→cX ys i (V i) j=V j:=fun j hj hL'=>by
   unfold cX;by_cases e:j=i
   ·rw[if_pos e,e]
   rw[if_neg e];exact hV j hj (hL'.resolve_right e)
  have hsame:(∀q:Nat,st[q]?≠some i)→∀w',S p w'→∃v,(aZ ops ys ops.size a0).put (bE ops i) (V i)=(aZ ops ys ops.size a0).put (bE ops i) v∧Clo ops (fun k=>L k∨k=i)∧(∀j,j<ops.size→(L j∨j=i)→cX ys i v j=V j)∧∃p,p≤st.length∧(∀(q:Nat) s,q<p→st[q]?=some s→(L s∨s=i))∧(∀(q:Nat) s,p≤q→st[q]?=some s→¬(L s∨s=i))∧S p w':=
   fun hns w' hS'=>⟨V i,rfl,hC',hupd,p,hp,fun q s h1 h2=>.inl (hp1 q s h1 h2),fun q s h1 h2 h3=>by
    rcases h3 with h3|h3
    ·exact hp2 q s h1 h2 h3
    subst h3;exact hns q h2,hS'⟩
  have hguard:∀j want,o.guard=some (j,want)→(yielded ops (aZ ops ys ops.size a0).tmps j=some want↔V j= .bool want):=by
   intro j want hgu;have hdj2:cE ops i j=true∧(bE ops j).isSome=true:=by
    have:=List.all_eq_true.1 hgd i (by simpa using hi);rw[ho] at this;simp only[Option.bind_some,hgu,Bool.and_eq_true] at this;exact this
   unfold yielded;cases hdd:bE ops j with
   |none=>
    have:=hdj2.2;rw[hdd] at this;cases this
   |some d=>
    have hb:(ops[j]?).bind (·.dst)=some d:=hdd;have he:=hEv.2.2.2.1 j d hdd hdj2.1;have hs:d<(aZ ops ys ops.size a0).tmps.size:=by rw[iQ];exact hin j d hdd
    rw[hb];simp only[Option.bind_some,Array.getElem?_eq_getElem hs];have:(aZ ops ys ops.size a0).tmps[d]=V j:=by
     rw[←he];simp[Act.eval,Array.getD,hs]
    rw[this];cases V j<;>simp
  have hdst:bE ops i=o.dst:=by unfold bE;rw[ho];rfl
  by_cases his:∃q:Nat,st[q]?=some i
  ·obtain⟨q,hq⟩:=his;have hql:q<st.length:=(List.getElem?_eq_some_iff.1 hq).1;have hpq:p=q:=by
    rcases Nat.lt_trichotomy p q with h'|h'|h'
    ·exfalso;obtain⟨s,hs⟩:∃s,st[p]?=some s:=⟨st[p]'(by omega),by simp[show p<st.length by omega]⟩;obtain⟨h2,h2'⟩:=hord q p i s h' hq hs;rcases wX hC' h2 (.inr rfl) with h3|h3
     ·exact hp2 p s (Nat.le_refl _) hs h3
     omega
    ·exact h'
    exact absurd (hp1 q i h' hq) hL
   subst hpq;rcases hk i o (Nat.zero_le _) ho with⟨hs1,h1⟩|⟨hw1,h1⟩|⟨q',hq',hv',hgn,h1⟩
   ·exact absurd (List.contains_iff_mem.2 (List.mem_of_getElem? hq)) (by rw[hs1];simp)
   ·exfalso;have h2:=List.all_eq_true.1 (List.all_eq_true.1 hsw i (List.mem_of_getElem? hq)) i (List.contains_iff_mem.1 hw1);simp at h2
   have hqq:q'=p:=by
    rcases Nat.lt_trichotomy q' p with h'|h'|h'
    ·exact absurd (hord p q' i i h' hq hq').2 (Nat.lt_irrefl _)
    ·exact h'
    exact absurd (hord q' p i i h' hq' hq).2 (Nat.lt_irrefl _)
   subst hqq;obtain⟨w',hr,hS'⟩:=h1 _ w hS hEv;unfold wpOp;have hw:Region.wanted o (yielded ops (aZ ops ys ops.size a0).tmps)=true:=by unfold Region.wanted;rw[hgn]
   simp only[ho];rw[if_pos hw];refine .inl ?_;unfold Oper.wp;rw[hr,Oper.upon_skip];refine⟨undef,by rw[hdst],hC',fun j hj hL'=>by rw[←hv'];exact hupd j hj hL',q'+1,hql,fun q s h1 h2=>?_,fun q s h1 h2 h3=>?_,hS'⟩
   ·rcases Nat.lt_or_ge q q' with h|h
    ·exact .inl (hp1 q s h h2)
    obtain rfl:q=q':=by omega
    rw[hq] at h2;injection h2 with h2
    exact .inr h2.symm
   rcases h3 with h3|h3
   ·exact hp2 q s (by omega) h2 h3
   subst h3;exact absurd (hord q q' s s (by omega) h2 hq).2 (Nat.lt_irrefl _)
  have hns:∀q:Nat,st[q]?≠some i:=fun q h=>his ⟨q,h⟩;rcases hk i o (Nat.zero_le _) ho with⟨hs1,h1⟩|⟨hw1,h1⟩|⟨q',hq',hv',hgn,h1⟩
  ·have h2:=h1 _ w (hG p hp w hS) hEv;have hgo:kZ P V (S p) i o (aZ ops ys ops.size a0).eval w:=by
    unfold kZ;cases hgu:o.guard with
    |none=>rw[hgu] at h2;exact .inl ⟨w,h2,hS⟩
    |some jw=>rw[hgu] at h2;exact⟨fun e=>.inl ⟨w,h2.1 e,hS⟩,h2.2⟩
   exact pK ho hguard hgo (hsame hns) w rfl hS
  ·have hp0:p=0:=by
    rcases Nat.eq_zero_or_pos p with h'|h'
    ·exact h'
    exfalso;obtain⟨s,hs⟩:∃s,st[0]?=some s:=⟨st[0]'(by omega),by simp[show 0<st.length by omega]⟩;have h3:=List.all_eq_true.1 (List.all_eq_true.1 hsw s (List.mem_of_getElem? hs)) i (List.contains_iff_mem.1 hw1);rw[Bool.and_eq_true] at h3;exact hL (wX hC h3.1 (hp1 0 s h' hs))
   subst hp0;have h2:=h1 _ w hS hEv;have hgo:kZ P V (S 0) i o (aZ ops ys ops.size a0).eval w:=by
    unfold kZ;cases hgu:o.guard with
    |none=>rw[hgu] at h2;exact h2
    |some jw=>rw[hgu] at h2;exact h2
   exact pK ho hguard hgo (hsame hns) w rfl hS
  exact absurd hq' (hns q')
 rintro L ys w ⟨hC,hV,p,hp,hp1,hp2,hS⟩ hL;have hpl:p=st.length:=by
  rcases Nat.lt_or_ge p st.length with h'|h'
  ·exfalso;have hs:st[p]?=some st[p]:=by simp[h']
   refine hp2 p _ (Nat.le_refl _) hs (hL _ ?_);rcases Nat.lt_or_ge st[p] ops.size with h3|h3
   ·exact h3
   exfalso;have h4:=List.all_eq_true.1 hsz _ (List.mem_of_getElem? hs);have h4:st[p]<ops.size:=of_decide_eq_true h4;omega
  omega
 subst hpl;show Q .normal (aZ ops ys ops.size a0) w;rw[gM ops (ys:=ys) (zs:=V) ops.size a0 (fun j hj=>hV j hj (hL j hj)),sV ops V a0 _ ws hws hVw,hD];exact hK w hS
section
variable {P:Program} {ops:Array Oper} {G C:World→Prop} {S:Nat→World→Prop} {st wd:List Nat} {a0:Act} {K:List Value→World→Prop} {o:Oper} {r:List Oper} {i:Nat} {vs:List Value} {v u g:Value} {j:Nat} {want:Bool}
theorem FxM.p(l:List (Nat × Nat × Nat))(q:List Nat)(hr:FxM P ops G S st wd a0 K r (i+1) (v::vs))(hg:o.guard=none:=by rfl)(hs:st.contains i=false:=by rfl)(hE:mL ops i l q=true:=by kernel_rfl)(h:∀ev w,evT ev vs l (evU ev a0 q (evC ev))→(execOp ev o).run P w= .ok (.value v) w:=by(intro ev w E;simp only[evT,evU,evC,aG] at E;go_simp;try with_reducible rfl)):FxM P ops G S st wd a0 K (o::r) i vs:=
 FxM.pure hg hs (fun ev w _ E=>h ev w (E.get l q hE)) hr
theorem FxM.q(HF:∀w,G w→C w)(l:List (Nat × Nat × Nat))(q:List Nat)(hr:FxM P ops G S st wd a0 K r (i+1) (v::vs))(hg:o.guard=none:=by rfl)(hs:st.contains i=false:=by rfl)(hE:mL ops i l q=true:=by kernel_rfl)(h:∀ev w,C w→evT ev vs l (evU ev a0 q (evC ev))→(execOp ev o).run P w= .ok (.value v) w:=by(intro ev w hC E;(try dsimp only at hC);simp only[evT,evU,evC,aG] at E;go_simp;try with_reducible rfl)):FxM P ops G S st wd a0 K (o::r) i vs:=
 FxM.pure hg hs (fun ev w hS E=>h ev w (HF w hS) (E.get l q hE)) hr
theorem FxM.l(HF:∀w,S 0 w→C w)(l:List (Nat × Nat × Nat))(q:List Nat)(hr:FxM P ops G S st wd a0 K r (i+1) (v::vs))(hg:o.guard=none:=by rfl)(hw:wd.contains i=true:=by kernel_rfl)(hE:mL ops i l q=true:=by kernel_rfl)(h:∀ev w,C w→evT ev vs l (evU ev a0 q (evC ev))→(execOp ev o).run P w= .ok (.value v) w:=by(intro ev w hC E;(try dsimp only at hC);simp only[evT,evU,evC,aG] at E;go_simp;try with_reducible rfl)):FxM P ops G S st wd a0 K (o::r) i vs:=
 FxM.load hg hw (fun ev w hS E=>h ev w (HF w hS) (E.get l q hE)) hr
theorem FxM.x(m:Nat)(l:List (Nat × Nat × Nat))(q:List Nat)(hr:FxM P ops G S st wd a0 K r (i+1) (gwV g want u::vs))(hg:o.guard=some (j,want):=by rfl)(hm:j+m+1=i:=by rfl)(hgv:aG vs m=g:=by(simp only[aG]<;>rfl))(hs:st.contains i=false:=by rfl)(hE:mL ops i l q=true:=by kernel_rfl)(h:g= .bool want→∀ev w,evT ev vs l (evU ev a0 q (evC ev))→(execOp ev o).run P w= .ok (.value u) w:=by(intro hg ev w E;simp only[evT,evU,evC,aG] at E;(try simp only[hg,bG] at E);go_simp;try with_reducible rfl)):FxM P ops G S st wd a0 K (o::r) i vs:=
 FxM.gw hg m hm hgv hs (fun hh ev w _ E=>h hh ev w (E.get l q hE)) hr
theorem FxM.xq(HF:∀w,G w→C w)(m:Nat)(l:List (Nat × Nat × Nat))(q:List Nat)(hr:FxM P ops G S st wd a0 K r (i+1) (gwV g want u::vs))(hg:o.guard=some (j,want):=by rfl)(hm:j+m+1=i:=by rfl)(hgv:aG vs m=g:=by(simp only[aG]<;>rfl))(hs:st.contains i=false:=by rfl)(hE:mL ops i l q=true:=by kernel_rfl)(h:g= .bool want→∀ev w,C w→evT ev vs l (evU ev a0 q (evC ev))→(execOp ev o).run P w= .ok (.value u) w:=by(intro hg ev w hC E;(try dsimp only at hC);simp only[evT,evU,evC,aG] at E;(try simp only[hg,bG] at E);go_simp;try with_reducible rfl)):FxM P ops G S st wd a0 K (o::r) i vs:=
 FxM.gw hg m hm hgv hs (fun hh ev w hS E=>h hh ev w (HF w hS) (E.get l q hE)) hr
theorem FxM.xl(HF:∀w,S 0 w→C w)(m:Nat)(l:List (Nat × Nat × Nat))(q:List Nat)(hr:FxM P ops G S st wd a0 K r (i+1) (gwV g want u::vs))(hg:o.guard=some (j,want):=by rfl)(hm:j+m+1=i:=by rfl)(hgv:aG vs m=g:=by(simp only[aG]<;>rfl))(hw:wd.contains i=true:=by kernel_rfl)(hE:mL ops i l q=true:=by kernel_rfl)(h:g= .bool want→∀ev w,C w→evT ev vs l (evU ev a0 q (evC ev))→(execOp ev o).run P w= .ok (.value u) w:=by(intro hg ev w hC E;(try dsimp only at hC);simp only[evT,evU,evC,aG] at E;(try simp only[hg,bG] at E);go_simp;try with_reducible rfl)):FxM P ops G S st wd a0 K (o::r) i vs:=
 FxM.gwl hg m hm hgv hw (fun hh ev w hS E=>h hh ev w (HF w hS) (E.get l q hE)) hr
end
end Go.Proofs.YthaggndnfamhjaaGreatDoor
