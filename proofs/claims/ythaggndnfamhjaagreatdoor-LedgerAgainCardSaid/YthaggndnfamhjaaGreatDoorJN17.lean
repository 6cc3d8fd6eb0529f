/- Texts, joined. -/
import Derived.Test.YthaggndnfamhjaaGreatDoorJN16

set_option linter.unusedSimpArgs false
set_option linter.unusedVariables false
set_option maxRecDepth 100000
set_option maxHeartbeats 16000000
namespace Go.Proofs.YthaggndnfamhjaaGreatDoor
open Go Go.RowKit
def phS:List (World→Prop)→Nat→World→Prop
 |[],_=>fun _=>True
 |s::_,0=>s
 |_::r,n+1=>phS r n
theorem phG{G:World→Prop}:∀{l:List (World→Prop)},(∀s ∈ l,∀W,s W→G W)→∀p,p<l.length→∀W,phS l p W→G W
 |[],_,p,hp,_,_=>absurd hp (by simp)
 |s::r,h,0,_,W,hW=>h s (by simp) W hW
 |s::r,h,p+1,hp,W,hW=>phG (l:=r) (fun t ht=>h t (List.mem_cons_of_mem _ ht)) p (by simpa using hp) W hW
def Eq(P:Program)(G:World→Prop)(S:Nat→World→Prop)(st wd:List Nat)(i:Nat)(o:Oper)(v:Value)(E:(Operand→Value)→Prop)(gv:Nat→Value):Prop:=
 (st.contains i=false∧∀ev w,G w→E ev→match o.guard with
   |none=>(execOp ev o).run P w= .ok (.value v) w
   |some (j,want)=>(gv j= .bool want→(execOp ev o).run P w= .ok (.value v) w)∧(gv j≠ .bool want→v=undef))∨
 (wd.contains i=true∧∀ev w,S 0 w→E ev→match o.guard with
   |none=>nV P v (S 0) o ev w
   |some (j,want)=>(gv j= .bool want→nV P v (S 0) o ev w)∧(gv j≠ .bool want→v=undef))∨
 (∃q,st[q]?=some i∧v=undef∧o.guard=none∧∀ev w,S q w→E ev→∃w',(execOp ev o).run P w= .ok .skip w'∧S (q+1) w')
def FxM(P:Program)(ops:Array Oper)(G:World→Prop)(S:Nat→World→Prop)(st wd:List Nat)(a0:Act)(K:List Value→World→Prop):List Oper→Nat→List Value→Prop
 |[],_,vs=>∀W,S st.length W→K vs W
 |o::r,i,vs=>∃v,Eq P G S st wd i o v (fun ev=>jD ops a0 i vs ev) (fun j=>aG vs (i - 1 - j))∧FxM P ops G S st wd a0 K r (i+1) (v::vs)
section
variable {P:Program} {ops:Array Oper} {G:World→Prop} {S:Nat→World→Prop} {st wd:List Nat} {a0:Act} {K:List Value→World→Prop} {o:Oper} {r:List Oper} {i:Nat} {vs:List Value} {v:Value} {f:FuncId} {args:Array Value} {j:Nat} {want:Bool}
theorem FxM.done(h:∀W,S st.length W→K vs W):FxM P ops G S st wd a0 K [] i vs:=h
theorem FxM.pure(hg:o.guard=none)(hs:st.contains i=false)(h:∀ev w,G w→jD ops a0 i vs ev→(execOp ev o).run P w= .ok (.value v) w)(hr:FxM P ops G S st wd a0 K r (i+1) (v::vs)):FxM P ops G S st wd a0 K (o::r) i vs:=
 ⟨v,.inl ⟨hs,fun ev w hG E=>by rw[hg];exact h ev w hG E⟩,hr⟩
theorem FxM.skip(hg:o.guard=some (j,want))(m:Nat)(hm:j+m+1=i)(hj:aG vs m≠ .bool want)(hs:st.contains i=false)(hr:FxM P ops G S st wd a0 K r (i+1) (undef::vs)):FxM P ops G S st wd a0 K (o::r) i vs:=
 ⟨undef,.inl ⟨hs,fun ev w _ E=>by rw[hg];exact⟨fun hh=>absurd hh (show aG vs (i - 1 - j)≠ .bool want by rw[show i - 1 - j=m by omega];exact hj),fun _=>rfl⟩⟩,hr⟩
theorem FxM.load(hg:o.guard=none)(hw:wd.contains i=true)(h:∀ev w,S 0 w→jD ops a0 i vs ev→(execOp ev o).run P w= .ok (.value v) w)(hr:FxM P ops G S st wd a0 K r (i+1) (v::vs)):FxM P ops G S st wd a0 K (o::r) i vs:=
 ⟨v,.inr (.inl ⟨hw,fun ev w hS E=>by rw[hg];exact .inl ⟨w,h ev w hS E,hS⟩⟩),hr⟩
theorem FxM.call(hg:o.guard=none)(hw:wd.contains i=true)(h:∀ev w,S 0 w→jD ops a0 i vs ev→(execOp ev o).run P w= .ok (.enter f args) w)(hc:∀w,S 0 w→Calls P f args w fun e w''=>e= .returned v∧S 0 w'')(hr:FxM P ops G S st wd a0 K r (i+1) (v::vs)):FxM P ops G S st wd a0 K (o::r) i vs:=
 ⟨v,.inr (.inl ⟨hw,fun ev w hS E=>by rw[hg];exact .inr ⟨f,args,w,h ev w hS E,hc w hS⟩⟩),hr⟩
theorem FxM.gw{u g:Value}(hg:o.guard=some (j,want))(m:Nat)(hm:j+m+1=i)(hgv:aG vs m=g)(hs:st.contains i=false)(h:g= .bool want→∀ev w,G w→jD ops a0 i vs ev→(execOp ev o).run P w= .ok (.value u) w)(hr:FxM P ops G S st wd a0 K r (i+1) (gwV g want u::vs)):FxM P ops G S st wd a0 K (o::r) i vs:=
 ⟨_,.inl ⟨hs,fun ev w hG E=>by
  rw[hg];have e:aG vs (i - 1 - j)=g:=by rw[show i - 1 - j=m by omega];exact hgv
  simp only[e];exact⟨fun hh=>by rw[hh,bG];exact h hh ev w hG E,fun hh=>jE hh⟩⟩,hr⟩
theorem FxM.gwl{u g:Value}(hg:o.guard=some (j,want))(m:Nat)(hm:j+m+1=i)(hgv:aG vs m=g)(hw:wd.contains i=true)(h:g= .bool want→∀ev w,S 0 w→jD ops a0 i vs ev→(execOp ev o).run P w= .ok (.value u) w)(hr:FxM P ops G S st wd a0 K r (i+1) (gwV g want u::vs)):FxM P ops G S st wd a0 K (o::r) i vs:=
 ⟨_,.inr (.inl ⟨hw,fun ev w hS E=>by
  rw[hg];have e:aG vs (i - 1 - j)=g:=by rw[show i - 1 - j=m by omega];exact hgv
  simp only[e];exact⟨fun hh=>.inl ⟨w,by rw[hh,bG];exact h hh ev w hS E,hS⟩,fun hh=>jE hh⟩⟩),hr⟩
theorem FxM.gwc{u g:Value}(hg:o.guard=some (j,want))(m:Nat)(hm:j+m+1=i)(hgv:aG vs m=g)(hw:wd.contains i=true)(h:g= .bool want→∀ev w,S 0 w→jD ops a0 i vs ev→(execOp ev o).run P w= .ok (.enter f args) w)(hc:g= .bool want→∀w,S 0 w→Calls P f args w fun e w''=>e= .returned u∧S 0 w'')(hr:FxM P ops G S st wd a0 K r (i+1) (gwV g want u::vs)):FxM P ops G S st wd a0 K (o::r) i vs:=
 ⟨_,.inr (.inl ⟨hw,fun ev w hS E=>by
  rw[hg];have e:aG vs (i - 1 - j)=g:=by rw[show i - 1 - j=m by omega];exact hgv
  simp only[e];exact⟨fun hh=>.inr ⟨f,args,w,h hh ev w hS E,by rw[hh,bG];exact hc hh w hS⟩,fun hh=>jE hh⟩⟩),hr⟩
theorem FxM.por{a b:Nat}{e d:Bool}(hg:o.guard=none)(hs:st.contains i=false)(hop:o.op= .pick (.tmp a) (.const (.bool true)) (.tmp b))(ma ja mb jb:Nat)(hE:([(ma,ja,a),(mb,jb,b)].all (fun x=>x.2.1+x.1+1 == i&&(bE ops x.2.1 == some x.2.2&&cE ops i x.2.1))&&[].all (fC ops))=true)
  (ha:aG vs ma= .bool e) (hb:aG vs mb=gwV (.bool e) false (.bool d)) (hr:FxM P ops G S st wd a0 K r (i+1) (.bool (e||d)::vs)):FxM P ops G S st wd a0 K (o::r) i vs:=
 FxM.pure hg hs (fun ev w _ E=>by
  obtain⟨h1,h2,h3, -⟩:=E.get _ _ hE;rw[dI hop (h1.trans ha),h3,h2,hb];cases e<;>rfl) hr
theorem FxM.pand{a b:Nat}{e d:Bool}(hg:o.guard=none)(hs:st.contains i=false)(hop:o.op= .pick (.tmp a) (.tmp b) (.const (.bool false)))(ma ja mb jb:Nat)(hE:([(ma,ja,a),(mb,jb,b)].all (fun x=>x.2.1+x.1+1 == i&&(bE ops x.2.1 == some x.2.2&&cE ops i x.2.1))&&[].all (fC ops))=true)
  (ha:aG vs ma= .bool e) (hb:aG vs mb=gwV (.bool e) true (.bool d)) (hr:FxM P ops G S st wd a0 K r (i+1) (.bool (e&&d)::vs)):FxM P ops G S st wd a0 K (o::r) i vs:=
 FxM.pure hg hs (fun ev w _ E=>by
  obtain⟨h1,h2,h3, -⟩:=E.get _ _ hE;rw[dI hop (h1.trans ha),h3,h2,hb];cases e<;>rfl) hr
theorem FxM.store(q:Nat)(hq:st[q]?=some i)(hg:o.guard=none)(h:∀ev w,S q w→jD ops a0 i vs ev→∃w',(execOp ev o).run P w= .ok .skip w'∧S (q+1) w')(hr:FxM P ops G S st wd a0 K r (i+1) (undef::vs)):FxM P ops G S st wd a0 K (o::r) i vs:=
 ⟨undef,.inr (.inr ⟨q,hq,rfl,hg,h⟩),hr⟩
end
theorem FxM.spec{P:Program}{ops:Array Oper}{G:World→Prop}{S:Nat→World→Prop}{st wd:List Nat}{a0:Act}{K:List Value→World→Prop}(hf:iD .any ops=true)(hgb:((List.range ops.size).all fun i=>match (ops[i]?).bind (·.guard) with|some (j,_)=>decide (j<i)|none=>true)=true):
  ∀(l:List Oper) (i:Nat) (vs:List Value),i≤ops.size→ops.toList.drop i=l→vs.length=i→FxM P ops G S st wd a0 K l i vs→
   ∃V:Nat→Value,(∀j,j<i→V j=aG vs (i - 1 - j))∧(∀k o,i≤k→ops[k]?=some o→Eq P G S st wd k o (V k) (fun ev=>(∀v,ev (.const v)=v)∧(∀f,ev (.func f)= .func (.func f) #[] #[])∧(∀g,ev (.global g)= .pointer (some ⟨g,0,none⟩))∧(∀j d,bE ops j=some d→cE ops k j=true→ev (.tmp d)=V j)∧(∀t,fC ops t=true→ev (.tmp t)=a0.eval (.tmp t))) V)∧(∃ws:List Value,ws.length=ops.size∧(∀j,j<ops.size→V j=aG ws (ops.size - 1 - j))∧∀W,S st.length W→K ws W)
 |[],i,vs,hle,hl,hv,h=>by
  have hi:i=ops.size:=by
   have:=congrArg List.length hl;simp at this;omega
  subst hi;refine⟨fun j=>aG vs (ops.size - 1 - j),fun j _=>rfl,fun k o hk ho=>?_,vs,hv,fun j _=>rfl,h⟩;rw[Array.getElem?_eq_none (by omega)] at ho;cases ho
 |o::r,i,vs,hle,hl,hv,h=>by
  obtain⟨v,h1,h2⟩:=h;have hoi:ops[i]?=some o:=by
   have:=congrArg (fun l=>l[0]?) hl;simpa using this
  have hi:i<ops.size:=by
   rcases Nat.lt_or_ge i ops.size with h'|h'
   ·exact h'
   rw[Array.getElem?_eq_none h'] at hoi;cases hoi
  have hl':ops.toList.drop (i+1)=r:=by
   rw[←List.tail_drop,hl];rfl
  obtain⟨V,hV,hk,hw⟩:=FxM.spec hf hgb r (i+1) (v::vs) (by omega) hl' (by simp[hv]) h2;have hVi:V i=v:=by
   rw[hV i (by omega)];simp[aG]
  have hVj:∀j,j<i→V j=aG vs (i - 1 - j):=fun j hj=>by
   rw[hV j (by omega),show i+1 - 1 - j=(i - 1 - j)+1 by omega];rfl
  refine⟨V,hVj,fun k o' hik ho'=>?_,hw⟩;rcases Nat.eq_or_lt_of_le hik with e|e
  ·subst e;rw[hoi] at ho';injection ho' with ho'
   subst ho';have hd:∀j,cE ops i j=true→j<i:=by
    intro j hj;unfold cE at hj;rw[hoi] at hj;simp only[Option.map_some,Option.getD_some] at hj;rw[Array.any_eq_true'] at hj;obtain⟨x,hx,hx2⟩:=hj;rw[Bool.and_eq_true,beq_iff_eq] at hx2;have:=dZ hf hoi hx hx2.1;omega
   have hE:∀ev:Operand→Value,((∀v,ev (.const v)=v)∧(∀f,ev (.func f)= .func (.func f) #[] #[])∧(∀g,ev (.global g)= .pointer (some ⟨g,0,none⟩))∧(∀j d,bE ops j=some d→cE ops i j=true→ev (.tmp d)=V j)∧(∀t,fC ops t=true→ev (.tmp t)=a0.eval (.tmp t)))→jD ops a0 i vs ev:=
    fun ev e=>⟨e.1,e.2.1,e.2.2.1,fun j d m hm hj hdp=>by rw[e.2.2.2.1 j d hj hdp,hVj j (hd j hdp),show i - 1 - j=m by omega],e.2.2.2.2⟩
   have hgj:∀j want,o.guard=some (j,want)→V j=aG vs (i - 1 - j):=fun j want hgu=>by
    have:=List.all_eq_true.1 hgb i (by simpa using hi);rw[hoi] at this;simp only[Option.bind_some,hgu] at this;exact hVj j (of_decide_eq_true this)
   rw[hVi];rcases h1 with⟨hs1,h1⟩|⟨hw1,h1⟩|⟨q,hq,hv',hgn,h1⟩
   ·refine .inl ⟨hs1,fun ev w hG e=>?_⟩;have:=h1 ev w hG (hE ev e);cases hgu:o.guard with
    |none=>rw[hgu] at this;exact this
    |some jw=>
     obtain⟨j,want⟩:=jw;rw[hgu] at this;simp only at this ⊢;rw[hgj j want hgu];exact this
   ·refine .inr (.inl ⟨hw1,fun ev w hS e=>?_⟩);have:=h1 ev w hS (hE ev e);cases hgu:o.guard with
    |none=>rw[hgu] at this;exact this
    |some jw=>
     obtain⟨j,want⟩:=jw;rw[hgu] at this;simp only at this ⊢;rw[hgj j want hgu];exact this
   exact .inr (.inr ⟨q,hq,hv',hgn,fun ev w hS e=>h1 ev w hS (hE ev e)⟩)
  exact hk k o' e ho'
theorem oQ{P:Program}{ops:Array Oper}{Q:Exit→Act→World→Prop}{V:Nat→Value}{S:World→Prop}{i:Nat}{o:Oper}{a:Act}{w:World}{K:Act→World→Prop}(ho:ops[i]?=some o)(hy:∀j want,o.guard=some (j,want)→(yielded ops a.tmps j=some want↔V j= .bool want))
  (hg:kH P V S i o a.eval w) (hK:∀w',S w'→K (a.put (bE ops i) (V i)) w') (w0:World) (_:w0=w) (hS:S w):wpOp P ops Q i K a w:=by
 unfold kH at hg;cases hgu:o.guard with
 |none=>
  rw[hgu] at hg;exact jU ho (by unfold Region.wanted;rw[hgu]) hg hK
 |some jw=>
  obtain⟨j,want⟩:=jw;rw[hgu] at hg;by_cases hvw:V j= .bool want
  ·exact jU ho (by unfold Region.wanted;rw[hgu];simp only;rw[(hy j want hgu).2 hvw];simp) (hg.1 hvw) hK
  have hw:Region.wanted o (yielded ops a.tmps)=false:=by
   unfold Region.wanted;rw[hgu];simp only;rw[beq_eq_false_iff_ne];exact fun h=>hvw ((hy j want hgu).1 h)
  unfold wpOp;simp only[ho];rw[if_neg (by rw[hw];simp)];have hdst:bE ops i=o.dst:=by unfold bE;rw[ho];rfl
  rw[←hdst,←hg.2 hvw];exact hK w hS
def mxB(ops:Array Oper)(st wd:List Nat)(N:Nat):Bool:=
 iD .any ops&&(nU ops&&(yP ops N&&(((List.range ops.size).all fun i=>match (ops[i]?).bind (·.guard) with|some (j,_)=>cE ops i j&&(bE ops j).isSome|none=>true)&&(((List.range ops.size).all fun i=>match (ops[i]?).bind (·.guard) with|some (j,_)=>decide (j<i)|none=>true)&&
 (((List.range st.length).all fun q=>(List.range q).all fun p=>match st[q]?,st[p]? with|some a,some b=>(dK ops a).contains b&&decide (b<a)|_,_=>false)&&((st.all fun s=>decide (s<ops.size))&&(st.all fun s=>wd.all fun k=>(dK ops s).contains k&&k !=s)))))))
theorem cA{P:Program}{ops:Array Oper}{Q:Exit→Act→World→Prop}(G:World→Prop)(S:Nat→World→Prop){id:Nat}{a0:Act}{w:World}(st wd:List Nat)(N:Nat)(dsts:List (Option Tmp))(hm:P.follows .mixedOrders=true)(hB:mxB ops st wd N=true)(hD:((List.range ops.size).map (bE ops)).reverse=dsts)(hN:N≤a0.tmps.size)(h0:S 0 w.drew)(hG:∀p,p≤st.length→∀W,S p W→G W)
  (h:FxM P ops G S st wd a0 (fun vs W=>Q .normal (bF dsts vs a0) W) ops.toList 0 []):(Code.region id ops true).wp P Q a0 w:=by
 unfold mxB at hB;simp only[Bool.and_eq_true] at hB;obtain⟨hf,hd,hn,hgd,hgb,hst,hsz,hsw⟩:=hB;obtain⟨V,_,hk,ws,hws,hVw,hK⟩:=FxM.spec hf hgb ops.toList 0 [] (Nat.zero_le _) (by simp) rfl h;have hdep:∀{i j:Nat} {o:Oper},ops[i]?=some o→cE ops i j=true→∃e ∈ o.after,Region.binds .any e=true∧e.on=j:=by
  intro i j o ho h;unfold cE at h;rw[ho] at h;simp only[Option.map_some,Option.getD_some] at h;rw[Array.any_eq_true'] at h;obtain⟨e,he,h2⟩:=h;rw[Bool.and_eq_true,beq_iff_eq] at h2;exact⟨e,he,h2⟩
 have hlt:∀j d,bE ops j=some d→j<ops.size:=by
  intro j d hj;rcases Nat.lt_or_ge j ops.size with h'|h'
  ·exact h'
  unfold bE at hj;rw[Array.getElem?_eq_none h'] at hj;cases hj
 have hord:∀(q p a b:Nat),p<q→st[q]?=some a→st[p]?=some b→(dK ops a).contains b=true∧b<a:=by
  intro q p a b hpq ha hb;have hq:q<st.length:=(List.getElem?_eq_some_iff.1 ha).1;have h1:=List.all_eq_true.1 hst q (by simpa using hq);have h2:=List.all_eq_true.1 h1 p (by simpa using hpq);rw[ha,hb] at h2;simp only[Bool.and_eq_true,decide_eq_true_iff] at h2;exact h2
 refine gX (fun L ys w=>Clo ops L∧(∀j,j<ops.size→L j→ys j=V j)∧∃p,p≤st.length∧(∀(q:Nat) s,q<p→st[q]?=some s→L s)∧(∀(q:Nat) s,p≤q→st[q]?=some s→¬L s)∧S p w) (fun ys=>bA ops ys ops.size a0) hm hd hf (fun _=>rfl)
  (fun ys=>⟨fun _ _ _ h=>h.elim,fun _ _ h=>h.elim,0,Nat.zero_le _,fun q s h=>absurd h (by omega),fun _ _ _ _ h=>h,h0⟩) ?_ ?_
 ·rintro L ys w i ⟨hC,hV,p,hp,hp1,hp2,hS⟩ hi hL hdp;obtain⟨o,ho⟩:∃o,ops[i]?=some o:=⟨ops[i],by simp[hi]⟩;have hdj:∀j,cE ops i j=true→L j:=fun j hj=>by
   obtain⟨e,he,hb,hej⟩:=hdep ho hj;rw[←hej];exact hdp o ho e he hb
  have hC':Clo ops (fun k=>L k∨k=i):=fun a b hab h=>by
   rcases h with h|h
   ·exact .inl (hC a b hab h)
   subst h;exact .inl (hdj b hab)
  have hin:∀j d,bE ops j=some d→d<a0.tmps.size:=by
   exact CZ
  have hEv:(∀v,(bA ops ys ops.size a0).eval (.const v)=v)∧(∀f,(bA ops ys ops.size a0).eval (.func f)= .func (.func f) #[] #[])∧(∀g,(bA ops ys ops.size a0).eval (.global g)= .pointer (some ⟨g,0,none⟩))∧(∀j d,bE ops j=some d→cE ops i j=true→(bA ops ys ops.size a0).eval (.tmp d)=V j)∧(∀t,fC ops t=true→(bA ops ys ops.size a0).eval (.tmp t)=a0.eval (.tmp t)):=
   ⟨fun _=>rfl,fun _=>rfl,fun _=>rfl,fun j d hj hdb=>by rw[jT ops ys hd j d hj ops.size a0 (hlt j d hj) (hin j d hj),hV j (hlt j d hj) (hdj j hdb)],fun t ht=>jC ops ys t ops.size a0 (fun j hj=>by
    unfold fC at ht;have:=List.all_eq_true.1 ht j (by simpa using hj);simpa using this)⟩
  have hupd:∀j,j<ops.size→(L j∨j=i)→cW ys i (V i) j=V j:=fun j hj hL'=>by
   unfold cW;by_cases e:j=i
   ·rw[if_pos e,e]
   rw[if_neg e];exact hV j hj (hL'.resolve_right e)
  have hsame:(∀q:Nat,st[q]?≠some i)→∀w',S p w'→∃v,(bA ops ys ops.size a0).put (bE ops i) (V i)=(bA ops ys ops.size a0).put (bE ops i) v∧Clo ops (fun k=>L k∨k=i)∧(∀j,j<ops.size→(L j∨j=i)→cW ys i v j=V j)∧∃p,p≤st.length∧(∀(q:Nat) s,q<p→st[q]?=some s→(L s∨s=i))∧(∀(q:Nat) s,p≤q→st[q]?=some s→¬(L s∨s=i))∧S p w':=
   fun hns w' hS'=>⟨V i,rfl,hC',hupd,p,hp,fun q s h1 h2=>.inl (hp1 q s h1 h2),fun q s h1 h2 h3=>by
    rcases h3 with h3|h3
    ·exact hp2 q s h1 h2 h3
    subst h3;exact hns q h2,hS'⟩
  have hguard:∀j want,o.guard=some (j,want)→(yielded ops (bA ops ys ops.size a0).tmps j=some want↔V j= .bool want):=by
   intro j want hgu;have hdj2:cE ops i j=true∧(bE ops j).isSome=true:=by
    have:=List.all_eq_true.1 hgd i (by simpa using hi);rw[ho] at this;simp only[Option.bind_some,hgu,Bool.and_eq_true] at this;exact this
   unfold yielded;cases hdd:bE ops j with
   |none=>
    have:=hdj2.2;rw[hdd] at this;cases this
   |some d=>
    have hb:(ops[j]?).bind (·.dst)=some d:=hdd;have he:=hEv.2.2.2.1 j d hdd hdj2.1;have hs:d<(bA ops ys ops.size a0).tmps.size:=by rw[iE];exact hin j d hdd
    rw[hb];simp only[Option.bind_some,Array.getElem?_eq_getElem hs];have:(bA ops ys ops.size a0).tmps[d]=V j:=by
     rw[←he];simp[Act.eval,Array.getD,hs]
    rw[this];cases V j<;>simp
  have hdst:bE ops i=o.dst:=by unfold bE;rw[ho];rfl
  by_cases his:∃q:Nat,st[q]?=some i
  ·obtain⟨q,hq⟩:=his;have hql:q<st.length:=(List.getElem?_eq_some_iff.1 hq).1;have hpq:p=q:=by
    rcases Nat.lt_trichotomy p q with h'|h'|h'
    ·exfalso;obtain⟨s,hs⟩:∃s,st[p]?=some s:=⟨st[p]'(by omega),by simp[show p<st.length by omega]⟩;obtain⟨h2,h2'⟩:=hord q p i s h' hq hs;rcases vX hC' h2 (.inr rfl) with h3|h3
     ·exact hp2 p s (Nat.le_refl _) hs h3
     omega
    ·exact h'
    exact absurd (hp1 q i h' hq) hL
   subst hpq;rcases hk i o (Nat.zero_le _) ho with⟨hs1,h1⟩|⟨hw1,h1⟩|⟨q',hq',hv',hgn,h1⟩
   ·exact absurd (List.contains_iff_mem.2 (List.mem_of_getElem? hq)) (by rw[hs1];simp)
   ·exfalso;have h2:=List.all_eq_true.1 (List.all_eq_true.1 hsw i (List.mem_of_getElem? hq)) i (List.contains_iff_mem.1 hw1);simp at h2
   have hqq:q'=p:=by
    rcases Nat.lt_trichotomy q' p with h'|h'|h'
    ·exact absurd (hord p q' i i h' hq hq').2 (Nat.lt_irrefl _)
    ·exact h'
    exact absurd (hord q' p i i h' hq' hq).2 (Nat.lt_irrefl _)
   subst hqq;obtain⟨w',hr,hS'⟩:=h1 _ w hS hEv;unfold wpOp;have hw:Region.wanted o (yielded ops (bA ops ys ops.size a0).tmps)=true:=by unfold Region.wanted;rw[hgn]
   simp only[ho];rw[if_pos hw];refine .inl ?_;unfold Oper.wp;rw[hr,Oper.upon_skip];refine⟨undef,by rw[hdst],hC',fun j hj hL'=>by rw[←hv'];exact hupd j hj hL',q'+1,hql,fun q s h1 h2=>?_,fun q s h1 h2 h3=>?_,hS'⟩
   ·rcases Nat.lt_or_ge q q' with h|h
    ·exact .inl (hp1 q s h h2)
    obtain rfl:q=q':=by omega
    rw[hq] at h2;injection h2 with h2
    exact .inr h2.symm
   rcases h3 with h3|h3
   ·exact hp2 q s (by omega) h2 h3
   subst h3;exact absurd (hord q q' s s (by omega) h2 hq).2 (Nat.lt_irrefl _)
  have hns:∀q:Nat,st[q]?≠some i:=fun q h=>his ⟨q,h⟩;rcases hk i o (Nat.zero_le _) ho with⟨hs1,h1⟩|⟨hw1,h1⟩|⟨q',hq',hv',hgn,h1⟩
  ·have h2:=h1 _ w (hG p hp w hS) hEv;have hgo:kH P V (S p) i o (bA ops ys ops.size a0).eval w:=by
    unfold kH;cases hgu:o.guard with
    |none=>rw[hgu] at h2;exact .inl ⟨w,h2,hS⟩
    |some jw=>rw[hgu] at h2;exact⟨fun e=>.inl ⟨w,h2.1 e,hS⟩,h2.2⟩
   exact oQ ho hguard hgo (hsame hns) w rfl hS
  ·have hp0:p=0:=by
    rcases Nat.eq_zero_or_pos p with h'|h'
    ·exact h'
    exfalso;obtain⟨s,hs⟩:∃s,st[0]?=some s:=⟨st[0]'(by omega),by simp[show 0<st.length by omega]⟩;have h3:=List.all_eq_true.1 (List.all_eq_true.1 hsw s (List.mem_of_getElem? hs)) i (List.contains_iff_mem.1 hw1);rw[Bool.and_eq_true] at h3;exact hL (vX hC h3.1 (hp1 0 s h' hs))
   subst hp0;have h2:=h1 _ w hS hEv;have hgo:kH P V (S 0) i o (bA ops ys ops.size a0).eval w:=by
    unfold kH;cases hgu:o.guard with
    |none=>rw[hgu] at h2;exact h2
    |some jw=>rw[hgu] at h2;exact h2
   exact oQ ho hguard hgo (hsame hns) w rfl hS
  exact absurd hq' (hns q')
 rintro L ys w ⟨hC,hV,p,hp,hp1,hp2,hS⟩ hL;have hpl:p=st.length:=by
  rcases Nat.lt_or_ge p st.length with h'|h'
  ·exfalso;have hs:st[p]?=some st[p]:=by simp[h']
   refine hp2 p _ (Nat.le_refl _) hs (hL _ ?_);rcases Nat.lt_or_ge st[p] ops.size with h3|h3
   ·exact h3
   exfalso;have h4:=List.all_eq_true.1 hsz _ (List.mem_of_getElem? hs);have h4:st[p]<ops.size:=of_decide_eq_true h4;omega
  omega
 subst hpl;show Q .normal (bA ops ys ops.size a0) w;rw[gI ops (ys:=ys) (zs:=V) ops.size a0 (fun j hj=>hV j hj (hL j hj)),rU ops V a0 _ ws hws hVw,hD];exact hK w hS
section
variable {P:Program} {ops:Array Oper} {G C:World→Prop} {S:Nat→World→Prop} {st wd:List Nat} {a0:Act} {K:List Value→World→Prop} {o:Oper} {r:List Oper} {i:Nat} {vs:List Value} {v u g:Value} {j:Nat} {want:Bool}
theorem FxM.p(l:List (Nat × Nat × Nat))(q:List Nat)(hr:FxM P ops G S st wd a0 K r (i+1) (v::vs))(hg:o.guard=none:=by rfl)(hs:st.contains i=false:=by rfl)(hE:oG ops i l q=true:=by kernel_rfl)(h:∀ev w,evT ev vs l (evU ev a0 q (evC ev))→(execOp ev o).run P w= .ok (.value v) w:=by(intro ev w E;simp only[evT,evU,evC,aG] at E;go_simp;try with_reducible rfl)):FxM P ops G S st wd a0 K (o::r) i vs:=
 FxM.pure hg hs (fun ev w _ E=>h ev w (E.get l q hE)) hr
theorem FxM.q(HF:∀w,G w→C w)(l:List (Nat × Nat × Nat))(q:List Nat)(hr:FxM P ops G S st wd a0 K r (i+1) (v::vs))(hg:o.guard=none:=by rfl)(hs:st.contains i=false:=by rfl)(hE:oG ops i l q=true:=by kernel_rfl)(h:∀ev w,C w→evT ev vs l (evU ev a0 q (evC ev))→(execOp ev o).run P w= .ok (.value v) w:=by(intro ev w hC E;(try dsimp only at hC);simp only[evT,evU,evC,aG] at E;go_simp;try with_reducible rfl)):FxM P ops G S st wd a0 K (o::r) i vs:=
 FxM.pure hg hs (fun ev w hS E=>h ev w (HF w hS) (E.get l q hE)) hr
theorem FxM.l(HF:∀w,S 0 w→C w)(l:List (Nat × Nat × Nat))(q:List Nat)(hr:FxM P ops G S st wd a0 K r (i+1) (v::vs))(hg:o.guard=none:=by rfl)(hw:wd.contains i=true:=by kernel_rfl)(hE:oG ops i l q=true:=by kernel_rfl)(h:∀ev w,C w→evT ev vs l (evU ev a0 q (evC ev))→(execOp ev o).run P w= .ok (.value v) w:=by(intro ev w hC E;(try dsimp only at hC);simp only[evT,evU,evC,aG] at E;go_simp;try with_reducible rfl)):FxM P ops G S st wd a0 K (o::r) i vs:=
 FxM.load hg hw (fun ev w hS E=>h ev w (HF w hS) (E.get l q hE)) hr
theorem FxM.x(m:Nat)(l:List (Nat × Nat × Nat))(q:List Nat)(hr:FxM P ops G S st wd a0 K r (i+1) (gwV g want u::vs))(hg:o.guard=some (j,want):=by rfl)(hm:j+m+1=i:=by rfl)(hgv:aG vs m=g:=by(simp only[aG]<;>rfl))(hs:st.contains i=false:=by rfl)(hE:oG ops i l q=true:=by kernel_rfl)(h:g= .bool want→∀ev w,evT ev vs l (evU ev a0 q (evC ev))→(execOp ev o).run P w= .ok (.value u) w:=by(intro hg ev w E;simp only[evT,evU,evC,aG] at E;(try simp only[hg,bG] at E);go_simp;try with_reducible rfl)):FxM P ops G S st wd a0 K (o::r) i vs:=
 FxM.gw hg m hm hgv hs (fun hh ev w _ E=>h hh ev w (E.get l q hE)) hr
theorem FxM.xq(HF:∀w,G w→C w)(m:Nat)(l:List (Nat × Nat × Nat))(q:List Nat)(hr:FxM P ops G S st wd a0 K r (i+1) (gwV g want u::vs))(hg:o.guard=some (j,want):=by rfl)(hm:j+m+1=i:=by rfl)(hgv:aG vs m=g:=by(simp only[aG]<;>rfl))(hs:st.contains i=false:=by rfl)(hE:oG ops i l q=true:=by kernel_rfl)(h:g= .bool want→∀ev w,C w→evT ev vs l (evU ev a0 q (evC ev))→(execOp ev o).run P w= .ok (.value u) w:=by(intro hg ev w hC E;(try dsimp only at hC);simp only[evT,evU,evC,aG] at E;(try simp only[hg,bG] at E);go_simp;try with_reducible rfl)):FxM P ops G S st wd a0 K (o::r) i vs:=
 FxM.gw hg m hm hgv hs (fun hh ev w hS E=>h hh ev w (HF w hS) (E.get l q hE)) hr
theorem FxM.xl(HF:∀w,S 0 w→C w)(m:Nat)(l:List (Nat × Nat × Nat))(q:List Nat)(hr:FxM P ops G S st wd a0 K r (i+1) (gwV g want u::vs))(hg:o.guard=some (j,want):=by rfl)(hm:j+m+1=i:=by rfl)(hgv:aG vs m=g:=by(simp only[aG]<;>rfl))(hw:wd.contains i=true:=by kernel_rfl)(hE:oG ops i l q=true:=by kernel_rfl)(h:g= .bool want→∀ev w,C w→evT ev vs l (evU ev a0 q (evC ev))→(execOp ev o).run P w= .ok (.value u) w:=by(intro hg ev w hC E;(try dsimp only at hC);simp only[evT,evU,evC,aG] at E;(try simp only[hg,bG] at E);go_simp;try with_reducible rfl)):FxM P ops G S st wd a0 K (o::r) i vs:=
 FxM.gwl hg m hm hgv hw (fun hh ev w hS E=>h hh ev w (HF w hS) (E.get l q hE)) hr
end
end Go.Proofs.YthaggndnfamhjaaGreatDoor
