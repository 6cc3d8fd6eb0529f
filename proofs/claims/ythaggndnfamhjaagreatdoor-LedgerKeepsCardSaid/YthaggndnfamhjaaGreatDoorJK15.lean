/- Texts, joined. -/
import Derived.OrdersHeld
import Derived.Test.YthaggndnfamhjaaGreatDoorJK2

set_option linter.unusedSimpArgs false
set_option linter.unusedVariables false
set_option maxRecDepth 100000
set_option maxHeartbeats 16000000
namespace Go.Proofs.YthaggndnfamhjaaGreatDoor
open Go Go.RowKit
def cX(ys:Nat→Value)(i:Nat)(v:Value):Nat→Value:=fun j=>if j=i then v else ys j
def bE(ops:Array Oper)(i:Nat):Option Tmp:=(ops[i]?).bind (·.dst)
def aZ(ops:Array Oper)(ys:Nat→Value):Nat→Act→Act
 |0,a=>a
 |n+1,a=>(aZ ops ys n a).put (bE ops n) (ys n)
theorem zN(a:Act)(d:Option Tmp)(u v:Value):(a.put d u).put d v=a.put d v:=by
 cases d with
 |none=>rfl
 |some d=>simp[Act.put]
theorem zO(a:Act){d e:Option Tmp}(u v:Value)(h:∀x,d=some x→e≠some x):(a.put d u).put e v=(a.put e v).put d u:=by
 cases d with
 |none=>rfl
 |some d=>
  cases e with
  |none=>rfl
  |some e=>
   have:d≠e:=fun h'=>h d rfl (by rw[h']);simp only[Act.put,Array.setIfInBounds_comm _ _ this]
theorem gM(ops:Array Oper){ys zs:Nat→Value}:∀(n:Nat) (a:Act),(∀j,j<n→ys j=zs j)→aZ ops ys n a=aZ ops zs n a
 |0,_,_=>rfl
 |n+1,a,h=>by
  unfold aZ;rw[gM ops n a (fun j hj=>h j (by omega)),h n (by omega)]
theorem oT(ops:Array Oper)(ys:Nat→Value)(i:Nat)(v:Value)(hd:∀j,i≠j→∀x,bE ops i=some x→bE ops j≠some x):∀(n:Nat) (a:Act),i<n→(aZ ops ys n a).put (bE ops i) v=aZ ops (cX ys i v) n a
 |0,_,h=>absurd h (by omega)
 |n+1,a,h=>by
  unfold aZ;by_cases e:i=n
  ·subst e;rw[zN,gM ops (ys:=cX ys i v) (zs:=ys) i a (fun j hj=>by unfold cX;rw[if_neg (by omega)])];unfold cX;rw[if_pos rfl]
  rw[zO _ _ _ (fun x hx=>by
   intro hy;exact hd n e x hy hx),oT ops ys i v hd n a (by omega)]
  congr 1;unfold cX;rw[if_neg (by omega)]
theorem kK(ops:Array Oper)(a:Act):∀n:Nat,aZ ops (fun j=>match bE ops j with|some d=>a.tmps.getD d undef|none=>undef) n a=a
 |0=>rfl
 |n+1=>by
  unfold aZ;rw[kK ops a n];cases h:bE ops n with
  |none=>rfl
  |some d=>
   obtain⟨t,ds⟩:=a;simp only[Act.put];congr 1;apply Array.ext
   ·simp
   intro k h1 h2;rw[Array.getElem_setIfInBounds];split
   ·rename_i e;subst e;simp[Array.getD,h2]
   rfl
theorem nW:∀(l:List Bool) (i:Nat),l.getD i true=false→(l.set i true).count false+1=l.count false
 |[],i,h=>by simp at h
 |b::r,0,h=>by
  simp at h;subst h;simp
 |b::r,i+1,h=>by
  have:=nW r i (by simpa using h);rw[List.set_cons_succ,List.count_cons,List.count_cons];omega
def iP(md:Region.Mode)(ops:Array Oper):Bool:=(List.range ops.size).all fun i=>((ops[i]?).map fun o=>o.after.all fun e=> !Region.binds md e||decide (e.on<i)).getD true
def oU(ops:Array Oper):Bool:=(List.range ops.size).all fun i=>(List.range ops.size).all fun j=>decide (i=j)||(match bE ops i with|some d=>decide (bE ops j≠some d)|none=>true)
theorem mJ{ops:Array Oper}(h:oU ops=true)(i j:Nat)(hij:i≠j)(x:Tmp)(hx:bE ops i=some x):bE ops j≠some x:=by
 intro hy;have hi:i<ops.size:=by
  rcases Nat.lt_or_ge i ops.size with h'|h'
  ·exact h'
  unfold bE at hx;rw[Array.getElem?_eq_none h'] at hx;cases hx
 have hj:j<ops.size:=by
  rcases Nat.lt_or_ge j ops.size with h'|h'
  ·exact h'
  unfold bE at hy;rw[Array.getElem?_eq_none h'] at hy;cases hy
 unfold oU at h;have h1:=List.all_eq_true.1 h i (by simpa using hi);have h2:=List.all_eq_true.1 h1 j (by simpa using hj);rw[hx,Bool.or_eq_true,decide_eq_true_iff] at h2;rcases h2 with h2|h2
 ·exact hij h2
 simp at h2;exact h2 hy
theorem bC{l:Array Bool}{i:Nat}(h:i<l.size)(d:Bool):l.getD i d=l[i]:=by simp[Array.getD,h]
theorem qT{P:Program}{md:Region.Mode}{ops:Array Oper}{Q:Exit→Act→World→Prop}(a0:Act)(J:(Nat→Prop)→(Nat→Value)→World→Prop)
  (hd:oU ops=true) (hf:iP md ops=true)
  (hstep:∀(L:Nat→Prop) (ys:Nat→Value) (w:World) (i:Nat),J L ys w→i<ops.size→¬L i→(∀o,ops[i]?=some o→∀e ∈ o.after,Region.binds md e=true→L e.on)→
   wpOp P ops Q i (fun a' w'=>∃v,a'=(aZ ops ys ops.size a0).put (bE ops i) v∧J (fun k=>L k∨k=i) (cX ys i v) w') (aZ ops ys ops.size a0) w)
  (hend:∀(L:Nat→Prop) (ys:Nat→Value) (w:World),J L ys w→(∀i,i<ops.size→L i)→Q .normal (aZ ops ys ops.size a0) w):
  ∀(fuel:Nat) (listed:Array Bool) (ys:Nat→Value) (w:World),listed.size=ops.size→listed.toList.count false≤fuel→J (fun k=>listed.getD k false=true) ys w→
   wpAny P md ops Q fuel listed (aZ ops ys ops.size a0) w:=by
 have hall:∀listed:Array Bool,listed.size=ops.size→Region.ready md ops listed=[]→∀i,i<ops.size→listed.getD i false=true:=by
  intro listed hs hr i;induction i using Nat.strongRecOn with
  |_ i ih=>
   intro hi;cases hl:listed.getD i false with
   |true=>rfl
   |false=>
    exfalso;have hm:i ∈ Region.ready md ops listed:=by
     unfold Region.ready;rw[List.mem_filter];refine⟨by simpa using hi,?_⟩;have hl':listed.getD i true=false:=by
      have hi':i<listed.size:=by omega
      simp only[Array.getD,hi',dif_pos] at hl ⊢;exact hl
     rw[hl',Bool.not_false,Bool.true_and];cases ho:ops[i]? with
     |none=>rw[Array.getElem?_eq_none_iff] at ho;omega
     |some o=>
      simp only[Option.map_some,Option.getD_some];rw[Array.all_eq_true'];intro e he;rw[Bool.or_eq_true,Bool.not_eq_true'];cases hb:Region.binds md e with
      |false=>exact .inl rfl
      |true=>
       refine .inr ?_;unfold iP at hf;have h1:=List.all_eq_true.1 hf i (by simpa using hi);rw[ho] at h1;simp only[Option.map_some,Option.getD_some] at h1;rw[Array.all_eq_true'] at h1;have h2:=h1 e he;rw[hb] at h2;simp at h2;exact ih e.on h2 (by omega)
    rw[hr] at hm;cases hm
 intro fuel;induction fuel with
 |zero=>
  intro listed ys w hs hc hJ;have hz:∀i,i<ops.size→listed.getD i false=true:=by
   intro i hi;have hi':i<listed.size:=by omega
   cases hl:listed.getD i false with
   |true=>rfl
   |false=>
    exfalso;have:false ∈ listed.toList:=by
     simp only[Array.getD,hi',dif_pos] at hl;rw[←hl];simp
    have:=List.count_pos_iff.2 this;omega
  refine⟨?_,hend _ ys w hJ hz⟩;unfold Region.ready;rw[List.filter_eq_nil_iff];intro i hi;have hi:i<ops.size:=by simpa using hi
  have h1:=hz i hi;have hi':i<listed.size:=by omega
  rw[bC hi'] at h1 ⊢;rw[h1];simp
 |succ fuel ih=>
  intro listed ys w hs hc hJ;refine⟨fun hr=>hend _ ys w hJ (hall listed hs hr),fun i hi=>?_⟩;unfold Region.ready at hi;rw[List.mem_filter,Bool.and_eq_true,Bool.not_eq_true'] at hi;obtain⟨hi1,hi2,hi3⟩:=hi;have hi1:i<ops.size:=by simpa using hi1
  have hi':i<listed.size:=by omega
  have hnl:¬listed.getD i false=true:=by
   simp only[Array.getD,hi',dif_pos] at hi2 ⊢;rw[hi2];simp
  refine wpOp_mono ?_ (hstep _ ys w i hJ hi1 hnl ?_)
  ·rintro a' w' ⟨v,rfl,hJ'⟩;rw[oT ops ys i v (fun j hj x hx=>mJ hd i j hj x hx) ops.size a0 hi1];refine ih _ _ _ (by simpa using hs) ?_ ?_
   ·have:=nW listed.toList i (by
     rw[bC hi'] at hi2;simp[List.getD,hi',hi2])
    rw[Array.toList_setIfInBounds];omega
   have e:(fun k=>(listed.setIfInBounds i true).getD k false=true)=fun k=>(listed.getD k false=true∨k=i):=by
    funext k;apply propext;by_cases hk:k=i
    ·subst hk;simp[Array.getD,hi']
    simp only[hk,or_false];simp only[Array.getD,Array.size_setIfInBounds];split
    ·rename_i hk2;rw[Array.getInternal_eq_getElem,Array.getElem_setIfInBounds,if_neg (fun h=>hk h.symm)];rfl
    rfl
   rw[e];exact hJ'
  intro o ho e he hb;rw[ho] at hi3;simp only[Option.map_some,Option.getD_some] at hi3;rw[Array.all_eq_true'] at hi3;have:=hi3 e he;rw[hb] at this;simpa using this
theorem iH{P:Program}{ops:Array Oper}{Q:Exit→Act→World→Prop}{id:Nat}{a0:Act}{w:World}(J:(Nat→Prop)→(Nat→Value)→World→Prop)(A:(Nat→Value)→Act)
  (hm:P.follows .mixedOrders=true) (hd:oU ops=true) (hf:iP .any ops=true) (hA:∀ys,aZ ops ys ops.size a0=A ys) (h0:∀ys,J (fun _=>False) ys w.drew)
  (hstep:∀(L:Nat→Prop) (ys:Nat→Value) (w:World) (i:Nat),J L ys w→i<ops.size→¬L i→(∀o,ops[i]?=some o→∀e ∈ o.after,Region.binds .any e=true→L e.on)→
   wpOp P ops Q i (fun a' w'=>∃v,a'=(A ys).put (bE ops i) v∧J (fun k=>L k∨k=i) (cX ys i v) w') (A ys) w)
  (hend:∀(L:Nat→Prop) (ys:Nat→Value) (w:World),J L ys w→(∀i,i<ops.size→L i)→Q .normal (A ys) w):(Code.region id ops true).wp P Q a0 w:=by
 refine wp_region_any hm ?_;have:=qT (P:=P) (md:=.any) (Q:=Q) a0 J hd hf (fun L ys w i h1 h2 h3 h4=>by rw[hA];exact hstep L ys w i h1 h2 h3 h4) (fun L ys w h1 h2=>by rw[hA];exact hend L ys w h1 h2) ops.size (Array.replicate ops.size false) (fun j=>match bE ops j with|some d=>a0.tmps.getD d undef|none=>undef) w.drew (by simp) (by simp[List.count_replicate]) (by
   have e:(fun k=>(Array.replicate ops.size false).getD k false=true)=fun _=>False:=by
    funext k;apply propext;simp only[Array.getD];split<;>simp
   rw[e];exact h0 _)
 rw[kK] at this;exact this
theorem zP{P:Program}{ops:Array Oper}{Q:Exit→Act→World→Prop}{J:(Nat→Prop)→(Nat→Value)→World→Prop}{L:Nat→Prop}{ys:Nat→Value}{w w':World}{i:Nat}{o:Oper}{a:Act}{v:Value}
  (ho:ops[i]?=some o) (hg:o.guard=none) (hr:(execOp a.eval o).run P w= .ok (.value v) w') (hJ:J (fun k=>L k∨k=i) (cX ys i v) w'):
  wpOp P ops Q i (fun a' w'=>∃v,a'=a.put (bE ops i) v∧J (fun k=>L k∨k=i) (cX ys i v) w') a w:=by
 unfold wpOp;have hw:Region.wanted o (yielded ops a.tmps)=true:=by unfold Region.wanted;rw[hg]
 simp only[ho];rw[if_pos hw];refine .inl ?_;unfold Oper.wp;rw[hr,Oper.upon_value];exact⟨v,by unfold bE;rw[ho];rfl,hJ⟩
theorem wU{P:Program}{ops:Array Oper}{Q:Exit→Act→World→Prop}{J:(Nat→Prop)→(Nat→Value)→World→Prop}{L:Nat→Prop}{ys:Nat→Value}{w w':World}{i:Nat}{o:Oper}{a:Act}
  (ho:ops[i]?=some o) (hg:o.guard=none) (hr:(execOp a.eval o).run P w= .ok .skip w') (hJ:J (fun k=>L k∨k=i) (cX ys i undef) w'):
  wpOp P ops Q i (fun a' w'=>∃v,a'=a.put (bE ops i) v∧J (fun k=>L k∨k=i) (cX ys i v) w') a w:=by
 unfold wpOp;have hw:Region.wanted o (yielded ops a.tmps)=true:=by unfold Region.wanted;rw[hg]
 simp only[ho];rw[if_pos hw];refine .inl ?_;unfold Oper.wp;rw[hr,Oper.upon_skip];exact⟨undef,by unfold bE;rw[ho];rfl,hJ⟩
theorem wV{P:Program}{ops:Array Oper}{Q:Exit→Act→World→Prop}{J:(Nat→Prop)→(Nat→Value)→World→Prop}{L:Nat→Prop}{ys:Nat→Value}{w w':World}{i:Nat}{o:Oper}{a:Act}{f:FuncId}{args:Array Value}
  (ho:ops[i]?=some o) (hg:o.guard=none) (hr:(execOp a.eval o).run P w= .ok (.enter f args) w') (hc:Calls P f args w' fun e w''=>∃v,e= .returned v∧J (fun k=>L k∨k=i) (cX ys i v) w''):
  wpOp P ops Q i (fun a' w'=>∃v,a'=a.put (bE ops i) v∧J (fun k=>L k∨k=i) (cX ys i v) w') a w:=by
 unfold wpOp;have hw:Region.wanted o (yielded ops a.tmps)=true:=by unfold Region.wanted;rw[hg]
 simp only[ho];rw[if_pos hw];refine .inl ?_;unfold Oper.wp;rw[hr,Oper.upon_enter];refine hc.mono ?_;rintro e w'' ⟨v,rfl,hJ⟩;exact⟨v,by unfold bE;rw[ho];rfl,hJ⟩
def fF(ops:Array Oper)(t:Tmp):Bool:=(List.range ops.size).all fun j=>decide (bE ops j≠some t)
def zQ(ops:Array Oper)(n:Nat):Bool:=(List.range ops.size).all fun j=>match bE ops j with|some d=>decide (d<n)|none=>true
def cE(ops:Array Oper)(i j:Nat):Bool:=((ops[i]?).map fun o=>o.after.any fun e=>Region.binds .any e&&e.on == j).getD false
theorem iQ(ops:Array Oper)(ys:Nat→Value):∀(n:Nat) (a:Act),(aZ ops ys n a).tmps.size=a.tmps.size
 |0,_=>rfl
 |n+1,a=>by
  unfold aZ;rw[←iQ ops ys n a];cases bE ops n<;>simp[Act.put]
theorem jR(ops:Array Oper)(ys:Nat→Value)(t:Tmp):∀(n:Nat) (a:Act),(∀j,j<n→bE ops j≠some t)→(aZ ops ys n a).eval (.tmp t)=a.eval (.tmp t)
 |0,_,_=>rfl
 |n+1,a,h=>by
  unfold aZ;rw[Act.eval_put,jR ops ys t n a (fun j hj=>h j (by omega))];rintro d hd e;injection e with e
  exact h n (by omega) (by rw[hd,e])
theorem kL(ops:Array Oper)(ys:Nat→Value)(hd:oU ops=true)(j:Nat)(d:Tmp)(hj:bE ops j=some d):∀(n:Nat) (a:Act),j<n→d<a.tmps.size→(aZ ops ys n a).eval (.tmp d)=ys j
 |0,_,h,_=>absurd h (by omega)
 |n+1,a,h,hs=>by
  unfold aZ;by_cases e:j=n
  ·subst e;rw[hj];have:d<(aZ ops ys j a).tmps.size:=by rw[iQ];exact hs
   simp[Act.put,Act.eval,Array.getD,this]
  rw[Act.eval_put,kL ops ys hd j d hj n a (by omega) hs];rintro x hx e';injection e' with e'
  subst e';exact mJ hd j n e d hj hx
def oV(P:Program)(V:Value)(S:World→Prop)(o:Oper)(ev:Operand→Value)(w:World):Prop:=
 (∃w',(execOp ev o).run P w= .ok (.value V) w'∧S w')∨(∃f args w',(execOp ev o).run P w= .ok (.enter f args) w'∧Calls P f args w' (fun e w''=>e= .returned V∧S w''))
def kZ(P:Program)(V:Nat→Value)(S:World→Prop)(i:Nat)(o:Oper)(ev:Operand→Value)(w:World):Prop:=match o.guard with
 |none=>oV P (V i) S o ev w
 |some (j,want)=>(V j= .bool want→oV P (V i) S o ev w)∧(V j≠ .bool want→V i=undef)
theorem kM{P:Program}{ops:Array Oper}{Q:Exit→Act→World→Prop}{V:Value}{S:World→Prop}{i:Nat}{o:Oper}{a:Act}{w:World}{K:Act→World→Prop}(ho:ops[i]?=some o)(hw:Region.wanted o (yielded ops a.tmps)=true)
  (h:oV P V S o a.eval w) (hK:∀w',S w'→K (a.put (bE ops i) V) w'):wpOp P ops Q i K a w:=by
 have hdst:bE ops i=o.dst:=by unfold bE;rw[ho];rfl
 unfold wpOp;simp only[ho];rw[if_pos hw];refine .inl ?_;unfold Oper.wp;rcases h with⟨w',h1,h2⟩|⟨f,args,w',h1,h2⟩
 ·rw[h1,Oper.upon_value,←hdst];exact hK w' h2
 rw[h1,Oper.upon_enter];refine h2.mono ?_;rintro e w'' ⟨rfl,h3⟩;simp only;rw[←hdst];exact hK w'' h3
def lA:List (Option Tmp)→Nat→(Nat→Value)→Act→Act
 |[],_,_,a=>a
 |d::r,k,ys,a=>lA r (k+1) ys (a.put d (ys k))
theorem oW(ys:Nat→Value)(d:Option Tmp):∀(l:List (Option Tmp)) (k:Nat) (a:Act),lA (l++[d]) k ys a=(lA l k ys a).put d (ys (k+l.length))
 |[],k,a=>rfl
 |x::r,k,a=>by
  rw[List.cons_append,lA,oW ys d r,lA,List.length_cons];congr 2;omega
theorem yF(ops:Array Oper)(ys:Nat→Value)(a:Act):∀n,aZ ops ys n a=lA ((List.range n).map (bE ops)) 0 ys a
 |0=>rfl
 |n+1=>by
  rw[List.range_succ,List.map_append,List.map_cons,List.map_nil,oW,←yF ops ys a n];show(aZ ops ys n a).put (bE ops n) (ys n)=_;simp
def nF(P:Program)(ops:Array Oper)(Q:Exit→Act→World→Prop)(n t:Nat):Exit→Act→World→Prop
 | .normal,a,w=>wpOps P ops Q (List.range' n t) a w
 |e,a,w=>Q e a w
def yG(md:Region.Mode)(ops:Array Oper)(k j:Nat):Bool:=((ops[k]?).map fun o=>o.after.any fun e=>Region.binds md e&&e.on == j).getD false
def qU(md:Region.Mode)(ops:Array Oper)(n:Nat):Bool:=(List.range ops.size).all fun k=>decide (k<n)||(List.range k).all fun j=>yG md ops k j
def lD(ops:Array Oper)(n:Nat):Bool:=(List.range n).all fun i=>match (ops[i]?).bind (·.guard) with|some (j,_)=>decide (j<n)|none=>true
theorem cD{md:Region.Mode}{ops:Array Oper}{listed:Array Bool}{i:Nat}:i ∈ Region.ready md ops listed↔i<ops.size∧listed.getD i true=false∧∀o,ops[i]?=some o→∀e ∈ o.after,Region.binds md e=true→listed.getD e.on false=true:=by
 unfold Region.ready;rw[List.mem_filter,List.mem_range];constructor
 ·rintro⟨h1,h2⟩;rw[Bool.and_eq_true,Bool.not_eq_true'] at h2;refine⟨h1,h2.1,fun o ho e he hb=>?_⟩;have h3:=h2.2;rw[ho] at h3;simp only[Option.map_some,Option.getD_some] at h3;rw[Array.all_eq_true'] at h3;have:=h3 e he;rw[hb] at this;simpa using this
 rintro⟨h1,h2,h3⟩;refine⟨h1,?_⟩;rw[Bool.and_eq_true,Bool.not_eq_true'];refine⟨h2,?_⟩;have ho:ops[i]?=some ops[i]:=by simp[h1]
 rw[ho];simp only[Option.map_some,Option.getD_some];rw[Array.all_eq_true'];intro e he;rw[Bool.or_eq_true,Bool.not_eq_true'];cases hb:Region.binds md e with
 |false=>exact .inl rfl
 |true=>exact .inr (h3 _ ho e he hb)
theorem oX{md:Region.Mode}{ops:Array Oper}{k j:Nat}(h:yG md ops k j=true):∃o,ops[k]?=some o∧∃e ∈ o.after,Region.binds md e=true∧e.on=j:=by
 unfold yG at h;cases ho:ops[k]? with
 |none=>rw[ho] at h;cases h
 |some o=>
  rw[ho] at h;simp only[Option.map_some,Option.getD_some] at h;rw[Array.any_eq_true'] at h;obtain⟨e,he,h2⟩:=h;rw[Bool.and_eq_true,beq_iff_eq] at h2;exact⟨o,rfl,e,he,h2⟩
theorem oY{md:Region.Mode}{ops:Array Oper}{n:Nat}(h:qU md ops n=true){k j:Nat}(hk:k<ops.size)(hn:n≤k)(hj:j<k):yG md ops k j=true:=by
 unfold qU at h;have h1:=List.all_eq_true.1 h k (by simpa using hk);rw[Bool.or_eq_true,decide_eq_true_iff] at h1;rcases h1 with h1|h1
 ·omega
 exact List.all_eq_true.1 h1 j (by simpa using hj)
theorem eG{md:Region.Mode}{ops:Array Oper}(h:iP md ops=true){i:Nat}{o:Oper}(ho:ops[i]?=some o){e:Edge}(he:e ∈ o.after)(hb:Region.binds md e=true):e.on<i:=by
 have hi:i<ops.size:=by
  rcases Nat.lt_or_ge i ops.size with h'|h'
  ·exact h'
  rw[Array.getElem?_eq_none h'] at ho;cases ho
 unfold iP at h;have h1:=List.all_eq_true.1 h i (by simpa using hi);rw[ho] at h1;simp only[Option.map_some,Option.getD_some] at h1;rw[Array.all_eq_true'] at h1;have h2:=h1 e he;rw[hb] at h2;simpa using h2
theorem nX{ops:Array Oper}{n i:Nat}(hi:i<n)(hn:n≤ops.size):(ops.extract 0 n)[i]?=ops[i]?:=by
 rw[Array.getElem?_extract];simp only[Nat.zero_add];rw[if_pos (by omega)]
theorem qV{P:Program}{md:Region.Mode}{ops:Array Oper}{Q:Exit→Act→World→Prop}{n:Nat}(hf:iP md ops=true)(ht:qU md ops n=true):
  ∀(t k:Nat) (listed:Array Bool) (a:Act) (w:World),n≤k→k+t=ops.size→listed.size=ops.size→(∀j,j<ops.size→listed.getD j false=decide (j<k))→wpOps P ops Q (List.range' k t) a w→wpAny P md ops Q t listed a w
 |0,k,listed,a,w,hk,hs,hl,hv,h=>by
  refine⟨?_,h⟩;rw[List.eq_nil_iff_forall_not_mem];intro i hi;obtain⟨h1,h2,_⟩:=cD.1 hi;have:=hv i h1;rw[bC (by omega)] at h2 this;rw[h2] at this;simp at this;omega
 |t+1,k,listed,a,w,hk,hs,hl,hv,h=>by
  have hkr:∀i ∈ Region.ready md ops listed,i=k:=by
   intro i hi;obtain⟨h1,h2,h3⟩:=cD.1 hi;have h4:=hv i h1;rw[bC (by omega)] at h2 h4;rw[h2] at h4;have h4:¬i<k:=by simpa using h4.symm
   rcases Nat.lt_or_ge k i with h5|h5
   ·obtain⟨o,ho,e,he,hb,hj⟩:=oX (oY ht h1 (by omega) h5);have h6:=h3 o ho e he hb;rw[hj,hv k (by omega)] at h6;simp at h6
   omega
  refine⟨fun hr=>?_,fun i hi=>?_⟩
  ·exfalso;have:k ∈ Region.ready md ops listed:=cD.2 ⟨by omega,by have:=hv k (by omega);rw[bC (by omega)] at this ⊢;rw[this];simp,fun o ho e he hb=>by
    have:=eG hf ho he hb;rw[hv e.on (by omega)];simpa using this⟩
   rw[hr] at this;cases this
  obtain rfl:=hkr i hi;rw[List.range'_succ,wpOps_cons] at h;refine wpOp_mono (fun a' w' h'=>qV hf ht t (i+1) _ a' w' (by omega) (by omega) (by simpa using hl) (fun j hj=>?_) h') h;by_cases hji:j=i
  ·subst hji;rw[bC (by simp;omega)];simp
  have h5:=hv j hj;rw[bC (by omega)] at h5;rw[bC (by simp;omega),Array.getElem_setIfInBounds (by omega),if_neg (fun h=>hji h.symm),h5];rw[decide_eq_decide];omega
theorem oZ{P:Program}{ops:Array Oper}{Q:Exit→Act→World→Prop}{n t i:Nat}(hi:i<n)(hn:n≤ops.size)(hg:lD ops n=true){K K':Act→World→Prop}{a:Act}{w:World}(hK:∀a w,K a w→K' a w)
  (h:wpOp P (ops.extract 0 n) (nF P ops Q n t) i K a w):wpOp P ops Q i K' a w:=by
 have hex:(ops.extract 0 n)[i]?=ops[i]?:=nX hi hn;have hL:LetsOut (nF P ops Q n t)→LetsOut Q:=fun⟨a,w,h⟩=>⟨a,w,h⟩;unfold wpOp at h ⊢;rw[hex] at h;cases ho:ops[i]? with
 |none=>rw[ho] at h;exact hK _ _ h
 |some o=>
  rw[ho] at h;simp only at h ⊢;have hw:Region.wanted o (yielded (ops.extract 0 n) a.tmps)=Region.wanted o (yielded ops a.tmps):=by
   unfold Region.wanted;cases hgu:o.guard with
   |none=>rfl
   |some jw=>
    obtain⟨j,want⟩:=jw;simp only;unfold lD at hg;have h1:=List.all_eq_true.1 hg i (by simpa using hi);rw[ho] at h1;simp only[Option.bind_some,hgu] at h1;have h1:j<n:=of_decide_eq_true h1;unfold yielded;rw[nX h1 hn]
  rw[hw] at h;split
  ·rename_i hw2;rw[if_pos hw2] at h;refine h.imp (fun h=>?_) (fun h=>⟨h.1,hL h.2⟩);unfold Oper.wp at*
   generalize(execOp a.eval o).run P w=r at*
   cases r with
   |ok nx w'=>
    cases nx<;>simp only[Oper.upon] at h ⊢<;>
     first
      |exact hK _ _ h
      |exact Calls.mono h (fun e w'' he=>by cases e<;>first|exact hK _ _ he|exact he|exact hL he)
      |exact Rows.mono h (fun _ _ he=>hK _ _ he)
   |halt x w'=>cases x<;>simp only[Oper.upon] at h ⊢<;>exact h
  rename_i hw2;rw[if_neg hw2] at h;exact hK _ _ h
theorem GM{p:Prop}(h:p:=by
 apply Classical.byContradiction;intro hh;have:∀j,j<n→front.getD j false=true:=fun j hj=>by
  cases hq:front.getD j false with
  |true=>rfl
  |false=>exact absurd ⟨j,hj,hq⟩ hh
 have:front.toList.count false=0:=by
  rw[List.count_eq_zero];intro hm;obtain⟨j,hj,he⟩:=List.getElem_of_mem hm;have hj':j<front.size:=by simpa using hj
  have h2:=this j (by omega);rw[bC hj'] at h2;simp only[Array.getElem_toList] at he;rw[he] at h2;cases h2
 omega):p:=h
theorem GN{p:Prop}(h:p:=by
 intro i;rw[cD,cD,hsz];constructor
 ·rintro⟨h1,h2,h3⟩;refine⟨h1,by omega,by rw[hgt i h1];exact h2,fun o ho e he hb=>?_⟩;have h4:=eG hf ho he hb;rw[hv e.on (by omega)];exact h3 o (by rw[nX h1 hn];exact ho) e he hb
 rintro⟨h1,h2,h3,h5⟩;refine⟨h1,by rw[←hgt i h1];exact h3,fun o ho e he hb=>?_⟩;have ho':ops[i]?=some o:=by rw[nX h1 hn] at ho;exact ho
 have h4:=eG hf ho' he hb;rw[←hv e.on (by omega)];exact h5 o ho' e he hb):p:=h
theorem nG{P:Program}{md:Region.Mode}{ops:Array Oper}{Q:Exit→Act→World→Prop}{n:Nat}(hn:n≤ops.size)(hf:iP md ops=true)(ht:qU md ops n=true)(hg:lD ops n=true):
  ∀(fuel:Nat) (front listed:Array Bool) (a:Act) (w:World),front.size=n→listed.size=ops.size→(∀j,j<ops.size→listed.getD j false=front.getD j false)→front.toList.count false=fuel→wpAny P md (ops.extract 0 n) (nF P ops Q n (ops.size - n)) fuel front a w→wpAny P md ops Q (fuel+(ops.size - n)) listed a w
 |fuel,front,listed,a,w,hs,hl,hv,hc,h=>by
  have hsz:(ops.extract 0 n).size=n:=by simp;omega
  have hgt:∀j,j<n→listed.getD j true=front.getD j true:=fun j hj=>by
   have:=hv j (by omega);rw[bC (by omega),bC (by omega)] at this;rw[bC (by omega),bC (by omega),this]
  have hrd:∀i,i ∈ Region.ready md (ops.extract 0 n) front↔(i<n∧i ∈ Region.ready md ops listed):=by
   exact GN
  cases fuel with
  |zero=>
   have hall:∀j,j<n→front.getD j false=true:=by
    intro j hj;rw[bC (by omega)];cases hl':front[j]'(by omega) with
    |true=>rfl
    |false=>
     exfalso;have:false ∈ front.toList:=by rw[←hl'];simp
     have:=List.count_pos_iff.2 this;omega
   rw[Nat.zero_add];refine qV hf ht (ops.size - n) n listed a w (Nat.le_refl _) (by omega) hl (fun j hj=>?_) h.2;rw[hv j hj];by_cases hj':j<n
   ·rw[hall j hj',decide_eq_true hj']
   rw[decide_eq_false hj'];simp only[Array.getD];rw[dif_neg (by omega)]
  |succ fuel=>
   obtain⟨h0,h1⟩:=h;rw[show fuel+1+(ops.size - n)=(fuel+(ops.size - n))+1 by omega];have hne:∃j,j<n∧front.getD j false=false:=by
    exact GM
   refine⟨fun hr=>?_,fun i hi=>?_⟩
   ·exfalso;have:∀j,j<n→front.getD j false=true:=by
     intro j;induction j using Nat.strongRecOn with
     |_ j ih=>
      intro hj;cases hq:front.getD j false with
      |true=>rfl
      |false=>
       exfalso;have:j ∈ Region.ready md ops listed:=by
        refine cD.2 ⟨by omega,?_,fun o ho e he hb=>?_⟩
        ·rw[hgt j hj];rw[bC (by omega)] at hq ⊢;exact hq
        have h4:=eG hf ho he hb;rw[hv e.on (by omega)];exact ih e.on h4 (by omega)
       rw[hr] at this;cases this
    obtain⟨j,hj,hq⟩:=hne;rw[this j hj] at hq;cases hq
   have hi2:=cD.1 hi;have hin:i<n:=by
    rcases Nat.lt_or_ge i n with h'|h'
    ·exact h'
    exfalso;obtain⟨j,hj,hq⟩:=hne;obtain⟨o,ho,e,he,hb,hej⟩:=oX (oY ht hi2.1 h' (show j<i by omega));have:=hi2.2.2 o ho e he hb;rw[hej,hv j (by omega),hq] at this;cases this
   refine oZ hin hn hg (fun a' w' h'=>?_) (h1 i ((hrd i).2 ⟨hin,hi⟩));refine nG hn hf ht hg fuel (front.setIfInBounds i true) (listed.setIfInBounds i true) a' w' (by simpa using hs) (by simpa using hl) (fun j hj=>?_) ?_ h'
   ·by_cases hjn:j<n
    ·rw[bC (by simp;omega),bC (by simp;omega),Array.getElem_setIfInBounds,Array.getElem_setIfInBounds];split
     ·rfl
     have:=hv j hj;rw[bC (by omega),bC (by omega)] at this;exact this
    have:=hv j hj;rw[bC (by omega)] at this;rw[bC (by simp;omega),Array.getElem_setIfInBounds (by omega),if_neg (by omega),this];simp only[Array.getD,Array.size_setIfInBounds];rw[dif_neg (by omega),dif_neg (by omega)]
   have h4:=nW front.toList i (by
    have h5:=hi2.2.1;rw[hgt i hin,bC (by omega)] at h5;simp[List.getD,show i<front.size by omega,h5])
   rw[Array.toList_setIfInBounds];omega
theorem nR{P:Program}{ops:Array Oper}{Q:Exit→Act→World→Prop}{S:World→Prop}{id:Nat}{a:Act}{w:World}(n:Nat)(hm:P.follows .mixedOrders=true)(hn:n≤ops.size)(hf:iP .any ops=true)(ht:qU .any ops n=true)(hg:lD ops n=true)(hS:S w.drew)
  (h:S w.drew→wpAnyH P .any (ops.extract 0 n) (nF P ops Q n (ops.size - n)) S n (Array.replicate n false) a w.drew):(Code.region id ops true).wp P Q a w:=by
 refine wp_region_any hm ?_;have h1:=wpAny_of_held _ _ _ _ (h hS);have h2:=nG hn hf ht hg n (Array.replicate n false) (Array.replicate ops.size false) a w.drew (by simp) (by simp) (fun j hj=>by
  simp only[Array.getD];split<;>split<;>simp) (by simp[List.count_replicate]) h1
 rw[show n+(ops.size - n)=ops.size by omega] at h2;exact h2
def lE(P:Program)(ops:Array Oper)(Q:Exit→Act→World→Prop)(n:Nat):Exit→Act→World→Prop
 | .normal,a,w=>wpList P ops Q (ops.toList.drop n) a w
 |e,a,w=>Q e a w
theorem uR(P:Program)(ops:Array Oper)(Q:Exit→Act→World→Prop)(n:Nat):nF P ops Q n (ops.size - n)=lE P ops Q n:=by
 have h:=wpOps_eq_wpList (P:=P) (Q:=Q) (ops:=ops) (ops.toList.drop n) n (fun j=>by rw[List.getElem?_drop];simp);rw[List.length_drop,Array.length_toList] at h;funext e a w;cases e<;>simp only[nF,lE];rw[h]
theorem uS(ops:Array Oper)(n:Nat):ops.extract 0 n=(ops.toList.take n).toArray:=by
 apply Array.toList_inj.1;simp
theorem fL{P:Program}{ops:Array Oper}{Q:Exit→Act→World→Prop}(S:World→Prop){id:Nat}{a:Act}{w:World}(n:Nat)(hm:P.follows .mixedOrders=true)(hn:n≤ops.size)(hf:iP .any ops=true)(ht:qU .any ops n=true)(hg:lD ops n=true)(hS:S w.drew)
  (h:S w.drew→wpAnyH P .any (ops.toList.take n).toArray (lE P ops Q n) S n (Array.replicate n false) a w.drew):(Code.region id ops true).wp P Q a w:=by
 refine nR (S:=S) n hm hn hf ht hg hS fun hS=>?_;rw[uR,uS];exact h hS
def GQ(P:Program)(J:(Nat→Prop)→(Nat→Value)→World→Prop)(L:Nat→Prop)(ys:Nat→Value)(i:Nat)(o:Oper)(ev:Operand→Value)(w:World):Prop:=
 (∃v w',(execOp ev o).run P w= .ok (.value v) w'∧J (fun k=>L k∨k=i) (cX ys i v) w')∨
 (∃w',(execOp ev o).run P w= .ok .skip w'∧J (fun k=>L k∨k=i) (cX ys i undef) w')∨
 (∃f args w',(execOp ev o).run P w= .ok (.enter f args) w'∧Calls P f args w' fun e w''=>∃v,e= .returned v∧J (fun k=>L k∨k=i) (cX ys i v) w'')
def Clo(ops:Array Oper)(L:Nat→Prop):Prop:=∀i j,cE ops i j=true→L i→L j
theorem DJ{p:Prop}(h:p:=by
 intro j d hj;unfold zQ at hn;have:=List.all_eq_true.1 hn j (by simpa using hlt j d hj);rw[hj] at this;have:d<N:=of_decide_eq_true this;exact Nat.lt_of_lt_of_le this hN):p:=h
theorem nH{P:Program}{ops:Array Oper}{Q:Exit→Act→World→Prop}{id:Nat}{a0:Act}{w:World}(J:(Nat→Prop)→(Nat→Value)→World→Prop)(dsts:List (Option Tmp))(N:Nat)
  (hm:P.follows .mixedOrders=true) (hd:oU ops=true) (hf:iP .any ops=true) (hn:zQ ops N=true) (hN:N≤a0.tmps.size) (hD:(List.range ops.size).map (bE ops)=dsts)
  (hgu:(ops.all fun o=>o.guard.isNone)=true) (h0:∀ys,J (fun _=>False) ys w.drew)
  (hstep:∀(i:Nat),i<ops.size→∀(L:Nat→Prop) (ys:Nat→Value) (ev:Operand→Value) (w:World),J L ys w→¬L i→Clo ops L→(∀j,cE ops i j=true→L j)→(∀v,ev (.const v)=v)→(∀f,ev (.func f)= .func (.func f) #[] #[])→(∀g,ev (.global g)= .pointer (some ⟨g,0,none⟩))→(∀j d,bE ops j=some d→ev (.tmp d)=ys j)→(∀t,fF ops t=true→ev (.tmp t)=a0.eval (.tmp t))→
   ∀o,ops[i]?=some o→GQ P J L ys i o ev w)
  (hend:∀(L:Nat→Prop) (ys:Nat→Value) (w:World),J L ys w→(∀i,i<ops.size→L i)→Q .normal (lA dsts 0 ys a0) w):(Code.region id ops true).wp P Q a0 w:=by
 have hdep:∀{i j:Nat} {o:Oper},ops[i]?=some o→cE ops i j=true→∃e ∈ o.after,Region.binds .any e=true∧e.on=j:=by
  intro i j o ho h;unfold cE at h;rw[ho] at h;simp only[Option.map_some,Option.getD_some] at h;rw[Array.any_eq_true'] at h;obtain⟨e,he,h2⟩:=h;rw[Bool.and_eq_true,beq_iff_eq] at h2;exact⟨e,he,h2⟩
 have hlt:∀j d,bE ops j=some d→j<ops.size:=by
  intro j d hj;rcases Nat.lt_or_ge j ops.size with h'|h'
  ·exact h'
  unfold bE at hj;rw[Array.getElem?_eq_none h'] at hj;cases hj
 refine iH (fun L ys w=>J L ys w∧Clo ops L) (fun ys=>aZ ops ys ops.size a0) hm hd hf (fun _=>rfl) (fun ys=>⟨h0 ys,fun _ _ _ h=>h.elim⟩) ?_ ?_
 ·rintro L ys w i ⟨hJ,hC⟩ hi hL hdp;obtain⟨o,ho⟩:∃o,ops[i]?=some o:=⟨ops[i],by simp[hi]⟩;have hdj:∀j,cE ops i j=true→L j:=fun j hj=>by
   obtain⟨e,he,hb,hej⟩:=hdep ho hj;rw[←hej];exact hdp o ho e he hb
  have hg:o.guard=none:=by
   rw[Array.all_eq_true'] at hgu;have:=hgu o (Array.mem_of_getElem? ho);simpa using this
  have hC':Clo ops (fun k=>L k∨k=i):=fun a b hab h=>by
   rcases h with h|h
   ·exact .inl (hC a b hab h)
   subst h;exact .inl (hdj b hab)
  have hin:∀j d,bE ops j=some d→d<a0.tmps.size:=by
   exact DJ
  have hG:=hstep i hi L ys (aZ ops ys ops.size a0).eval w hJ hL hC hdj (fun _=>rfl) (fun _=>rfl) (fun _=>rfl) (fun j d hj=>kL ops ys hd j d hj ops.size a0 (hlt j d hj) (hin j d hj)) (fun t ht=>jR ops ys t ops.size a0 (fun j hj=>by
   unfold fF at ht;have:=List.all_eq_true.1 ht j (by simpa using hj);simpa using this)) o ho
  rcases hG with⟨v,w',h1,h2⟩|⟨w',h1,h2⟩|⟨f,args,w',h1,h2⟩
  ·exact zP (J:=fun L ys w=>J L ys w∧Clo ops L) ho hg h1 ⟨h2,hC'⟩
  ·exact wU (J:=fun L ys w=>J L ys w∧Clo ops L) ho hg h1 ⟨h2,hC'⟩
  refine wV (J:=fun L ys w=>J L ys w∧Clo ops L) ho hg h1 (h2.mono ?_);rintro e w'' ⟨v,rfl,h3⟩;exact⟨v,rfl,h3,hC'⟩
 rintro L ys w ⟨hJ,_⟩ hL;show Q .normal (aZ ops ys ops.size a0) w;rw[yF,hD];exact hend L ys w hJ hL
end Go.Proofs.YthaggndnfamhjaaGreatDoor
