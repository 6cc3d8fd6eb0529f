/- Texts, joined. -/
import Derived.OrdersHeld
import Derived.Test.YthaggndnfamhjaaGreatDoorJN2

set_option linter.unusedSimpArgs false
set_option linter.unusedVariables false
set_option maxRecDepth 100000
set_option maxHeartbeats 16000000
namespace Go.Proofs.YthaggndnfamhjaaGreatDoor
open Go Go.RowKit
def cW(ys:Nat→Value)(i:Nat)(v:Value):Nat→Value:=fun j=>if j=i then v else ys j
def bE(ops:Array Oper)(i:Nat):Option Tmp:=(ops[i]?).bind (·.dst)
def bA(ops:Array Oper)(ys:Nat→Value):Nat→Act→Act
 |0,a=>a
 |n+1,a=>(bA ops ys n a).put (bE ops n) (ys n)
theorem yM(a:Act)(d:Option Tmp)(u v:Value):(a.put d u).put d v=a.put d v:=by
 cases d with
 |none=>rfl
 |some d=>simp[Act.put]
theorem yN(a:Act){d e:Option Tmp}(u v:Value)(h:∀x,d=some x→e≠some x):(a.put d u).put e v=(a.put e v).put d u:=by
 cases d with
 |none=>rfl
 |some d=>
  cases e with
  |none=>rfl
  |some e=>
   have:d≠e:=fun h'=>h d rfl (by rw[h']);simp only[Act.put,Array.setIfInBounds_comm _ _ this]
theorem gI(ops:Array Oper){ys zs:Nat→Value}:∀(n:Nat) (a:Act),(∀j,j<n→ys j=zs j)→bA ops ys n a=bA ops zs n a
 |0,_,_=>rfl
 |n+1,a,h=>by
  unfold bA;rw[gI ops n a (fun j hj=>h j (by omega)),h n (by omega)]
theorem nT(ops:Array Oper)(ys:Nat→Value)(i:Nat)(v:Value)(hd:∀j,i≠j→∀x,bE ops i=some x→bE ops j≠some x):∀(n:Nat) (a:Act),i<n→(bA ops ys n a).put (bE ops i) v=bA ops (cW ys i v) n a
 |0,_,h=>absurd h (by omega)
 |n+1,a,h=>by
  unfold bA;by_cases e:i=n
  ·subst e;rw[yM,gI ops (ys:=cW ys i v) (zs:=ys) i a (fun j hj=>by unfold cW;rw[if_neg (by omega)])];unfold cW;rw[if_pos rfl]
  rw[yN _ _ _ (fun x hx=>by
   intro hy;exact hd n e x hy hx),nT ops ys i v hd n a (by omega)]
  congr 1;unfold cW;rw[if_neg (by omega)]
theorem jS(ops:Array Oper)(a:Act):∀n:Nat,bA ops (fun j=>match bE ops j with|some d=>a.tmps.getD d undef|none=>undef) n a=a
 |0=>rfl
 |n+1=>by
  unfold bA;rw[jS ops a n];cases h:bE ops n with
  |none=>rfl
  |some d=>
   obtain⟨t,ds⟩:=a;simp only[Act.put];congr 1;apply Array.ext
   ·simp
   intro k h1 h2;rw[Array.getElem_setIfInBounds];split
   ·rename_i e;subst e;simp[Array.getD,h2]
   rfl
theorem nC:∀(l:List Bool) (i:Nat),l.getD i true=false→(l.set i true).count false+1=l.count false
 |[],i,h=>by simp at h
 |b::r,0,h=>by
  simp at h;subst h;simp
 |b::r,i+1,h=>by
  have:=nC r i (by simpa using h);rw[List.set_cons_succ,List.count_cons,List.count_cons];omega
def iD(md:Region.Mode)(ops:Array Oper):Bool:=(List.range ops.size).all fun i=>((ops[i]?).map fun o=>o.after.all fun e=> !Region.binds md e||decide (e.on<i)).getD true
def nU(ops:Array Oper):Bool:=(List.range ops.size).all fun i=>(List.range ops.size).all fun j=>decide (i=j)||(match bE ops i with|some d=>decide (bE ops j≠some d)|none=>true)
theorem lS{ops:Array Oper}(h:nU ops=true)(i j:Nat)(hij:i≠j)(x:Tmp)(hx:bE ops i=some x):bE ops j≠some x:=by
 intro hy;have hi:i<ops.size:=by
  rcases Nat.lt_or_ge i ops.size with h'|h'
  ·exact h'
  unfold bE at hx;rw[Array.getElem?_eq_none h'] at hx;cases hx
 have hj:j<ops.size:=by
  rcases Nat.lt_or_ge j ops.size with h'|h'
  ·exact h'
  unfold bE at hy;rw[Array.getElem?_eq_none h'] at hy;cases hy
 unfold nU at h;have h1:=List.all_eq_true.1 h i (by simpa using hi);have h2:=List.all_eq_true.1 h1 j (by simpa using hj);rw[hx,Bool.or_eq_true,decide_eq_true_iff] at h2;rcases h2 with h2|h2
 ·exact hij h2
 simp at h2;exact h2 hy
theorem bC{l:Array Bool}{i:Nat}(h:i<l.size)(d:Bool):l.getD i d=l[i]:=by simp[Array.getD,h]
theorem qA{P:Program}{md:Region.Mode}{ops:Array Oper}{Q:Exit→Act→World→Prop}(a0:Act)(J:(Nat→Prop)→(Nat→Value)→World→Prop)
  (hd:nU ops=true) (hf:iD md ops=true)
  (hstep:∀(L:Nat→Prop) (ys:Nat→Value) (w:World) (i:Nat),J L ys w→i<ops.size→¬L i→(∀o,ops[i]?=some o→∀e ∈ o.after,Region.binds md e=true→L e.on)→
   wpOp P ops Q i (fun a' w'=>∃v,a'=(bA ops ys ops.size a0).put (bE ops i) v∧J (fun k=>L k∨k=i) (cW ys i v) w') (bA ops ys ops.size a0) w)
  (hend:∀(L:Nat→Prop) (ys:Nat→Value) (w:World),J L ys w→(∀i,i<ops.size→L i)→Q .normal (bA ops ys ops.size a0) w):
  ∀(fuel:Nat) (listed:Array Bool) (ys:Nat→Value) (w:World),listed.size=ops.size→listed.toList.count false≤fuel→J (fun k=>listed.getD k false=true) ys w→
   wpAny P md ops Q fuel listed (bA ops ys ops.size a0) w:=by
 have hall:∀listed:Array Bool,listed.size=ops.size→Region.ready md ops listed=[]→∀i,i<ops.size→listed.getD i false=true:=by
  intro listed hs hr i;induction i using Nat.strongRecOn with
  |_ i ih=>
   intro hi;cases hl:listed.getD i false with
   |true=>rfl
   |false=>
    exfalso;have hm:i ∈ Region.ready md ops listed:=by
     unfold Region.ready;rw[List.mem_filter];refine⟨by simpa using hi,?_⟩;have hl':listed.getD i true=false:=by
      have hi':i<listed.size:=by omega
      simp only[Array.getD,hi',dif_pos] at hl ⊢;exact hl
     rw[hl',Bool.not_false,Bool.true_and];cases ho:ops[i]? with
     |none=>rw[Array.getElem?_eq_none_iff] at ho;omega
     |some o=>
      simp only[Option.map_some,Option.getD_some];rw[Array.all_eq_true'];intro e he;rw[Bool.or_eq_true,Bool.not_eq_true'];cases hb:Region.binds md e with
      |false=>exact .inl rfl
      |true=>
       refine .inr ?_;unfold iD at hf;have h1:=List.all_eq_true.1 hf i (by simpa using hi);rw[ho] at h1;simp only[Option.map_some,Option.getD_some] at h1;rw[Array.all_eq_true'] at h1;have h2:=h1 e he;rw[hb] at h2;simp at h2;exact ih e.on h2 (by omega)
    rw[hr] at hm;cases hm
 intro fuel;induction fuel with
 |zero=>
  intro listed ys w hs hc hJ;have hz:∀i,i<ops.size→listed.getD i false=true:=by
   intro i hi;have hi':i<listed.size:=by omega
   cases hl:listed.getD i false with
   |true=>rfl
   |false=>
    exfalso;have:false ∈ listed.toList:=by
     simp only[Array.getD,hi',dif_pos] at hl;rw[←hl];simp
    have:=List.count_pos_iff.2 this;omega
  refine⟨?_,hend _ ys w hJ hz⟩;unfold Region.ready;rw[List.filter_eq_nil_iff];intro i hi;have hi:i<ops.size:=by simpa using hi
  have h1:=hz i hi;have hi':i<listed.size:=by omega
  rw[bC hi'] at h1 ⊢;rw[h1];simp
 |succ fuel ih=>
  intro listed ys w hs hc hJ;refine⟨fun hr=>hend _ ys w hJ (hall listed hs hr),fun i hi=>?_⟩;unfold Region.ready at hi;rw[List.mem_filter,Bool.and_eq_true,Bool.not_eq_true'] at hi;obtain⟨hi1,hi2,hi3⟩:=hi;have hi1:i<ops.size:=by simpa using hi1
  have hi':i<listed.size:=by omega
  have hnl:¬listed.getD i false=true:=by
   simp only[Array.getD,hi',dif_pos] at hi2 ⊢;rw[hi2];simp
  refine wpOp_mono ?_ (hstep _ ys w i hJ hi1 hnl ?_)
  ·rintro a' w' ⟨v,rfl,hJ'⟩;rw[nT ops ys i v (fun j hj x hx=>lS hd i j hj x hx) ops.size a0 hi1];refine ih _ _ _ (by simpa using hs) ?_ ?_
   ·have:=nC listed.toList i (by
     rw[bC hi'] at hi2;simp[List.getD,hi',hi2])
    rw[Array.toList_setIfInBounds];omega
   have e:(fun k=>(listed.setIfInBounds i true).getD k false=true)=fun k=>(listed.getD k false=true∨k=i):=by
    funext k;apply propext;by_cases hk:k=i
    ·subst hk;simp[Array.getD,hi']
    simp only[hk,or_false];simp only[Array.getD,Array.size_setIfInBounds];split
    ·rename_i hk2;rw[Array.getInternal_eq_getElem,Array.getElem_setIfInBounds,if_neg (fun h=>hk h.symm)];rfl
    rfl
   rw[e];exact hJ'
  intro o ho e he hb;rw[ho] at hi3;simp only[Option.map_some,Option.getD_some] at hi3;rw[Array.all_eq_true'] at hi3;have:=hi3 e he;rw[hb] at this;simpa using this
theorem gX{P:Program}{ops:Array Oper}{Q:Exit→Act→World→Prop}{id:Nat}{a0:Act}{w:World}(J:(Nat→Prop)→(Nat→Value)→World→Prop)(A:(Nat→Value)→Act)
  (hm:P.follows .mixedOrders=true) (hd:nU ops=true) (hf:iD .any ops=true) (hA:∀ys,bA ops ys ops.size a0=A ys) (h0:∀ys,J (fun _=>False) ys w.drew)
  (hstep:∀(L:Nat→Prop) (ys:Nat→Value) (w:World) (i:Nat),J L ys w→i<ops.size→¬L i→(∀o,ops[i]?=some o→∀e ∈ o.after,Region.binds .any e=true→L e.on)→
   wpOp P ops Q i (fun a' w'=>∃v,a'=(A ys).put (bE ops i) v∧J (fun k=>L k∨k=i) (cW ys i v) w') (A ys) w)
  (hend:∀(L:Nat→Prop) (ys:Nat→Value) (w:World),J L ys w→(∀i,i<ops.size→L i)→Q .normal (A ys) w):(Code.region id ops true).wp P Q a0 w:=by
 refine wp_region_any hm ?_;have:=qA (P:=P) (md:=.any) (Q:=Q) a0 J hd hf (fun L ys w i h1 h2 h3 h4=>by rw[hA];exact hstep L ys w i h1 h2 h3 h4) (fun L ys w h1 h2=>by rw[hA];exact hend L ys w h1 h2) ops.size (Array.replicate ops.size false) (fun j=>match bE ops j with|some d=>a0.tmps.getD d undef|none=>undef) w.drew (by simp) (by simp[List.count_replicate]) (by
   have e:(fun k=>(Array.replicate ops.size false).getD k false=true)=fun _=>False:=by
    funext k;apply propext;simp only[Array.getD];split<;>simp
   rw[e];exact h0 _)
 rw[jS] at this;exact this
theorem yO{P:Program}{ops:Array Oper}{Q:Exit→Act→World→Prop}{J:(Nat→Prop)→(Nat→Value)→World→Prop}{L:Nat→Prop}{ys:Nat→Value}{w w':World}{i:Nat}{o:Oper}{a:Act}{v:Value}
  (ho:ops[i]?=some o) (hg:o.guard=none) (hr:(execOp a.eval o).run P w= .ok (.value v) w') (hJ:J (fun k=>L k∨k=i) (cW ys i v) w'):
  wpOp P ops Q i (fun a' w'=>∃v,a'=a.put (bE ops i) v∧J (fun k=>L k∨k=i) (cW ys i v) w') a w:=by
 unfold wpOp;have hw:Region.wanted o (yielded ops a.tmps)=true:=by unfold Region.wanted;rw[hg]
 simp only[ho];rw[if_pos hw];refine .inl ?_;unfold Oper.wp;rw[hr,Oper.upon_value];exact⟨v,by unfold bE;rw[ho];rfl,hJ⟩
theorem vU{P:Program}{ops:Array Oper}{Q:Exit→Act→World→Prop}{J:(Nat→Prop)→(Nat→Value)→World→Prop}{L:Nat→Prop}{ys:Nat→Value}{w w':World}{i:Nat}{o:Oper}{a:Act}
  (ho:ops[i]?=some o) (hg:o.guard=none) (hr:(execOp a.eval o).run P w= .ok .skip w') (hJ:J (fun k=>L k∨k=i) (cW ys i undef) w'):
  wpOp P ops Q i (fun a' w'=>∃v,a'=a.put (bE ops i) v∧J (fun k=>L k∨k=i) (cW ys i v) w') a w:=by
 unfold wpOp;have hw:Region.wanted o (yielded ops a.tmps)=true:=by unfold Region.wanted;rw[hg]
 simp only[ho];rw[if_pos hw];refine .inl ?_;unfold Oper.wp;rw[hr,Oper.upon_skip];exact⟨undef,by unfold bE;rw[ho];rfl,hJ⟩
theorem vV{P:Program}{ops:Array Oper}{Q:Exit→Act→World→Prop}{J:(Nat→Prop)→(Nat→Value)→World→Prop}{L:Nat→Prop}{ys:Nat→Value}{w w':World}{i:Nat}{o:Oper}{a:Act}{f:FuncId}{args:Array Value}
  (ho:ops[i]?=some o) (hg:o.guard=none) (hr:(execOp a.eval o).run P w= .ok (.enter f args) w') (hc:Calls P f args w' fun e w''=>∃v,e= .returned v∧J (fun k=>L k∨k=i) (cW ys i v) w''):
  wpOp P ops Q i (fun a' w'=>∃v,a'=a.put (bE ops i) v∧J (fun k=>L k∨k=i) (cW ys i v) w') a w:=by
 unfold wpOp;have hw:Region.wanted o (yielded ops a.tmps)=true:=by unfold Region.wanted;rw[hg]
 simp only[ho];rw[if_pos hw];refine .inl ?_;unfold Oper.wp;rw[hr,Oper.upon_enter];refine hc.mono ?_;rintro e w'' ⟨v,rfl,hJ⟩;exact⟨v,by unfold bE;rw[ho];rfl,hJ⟩
def fC(ops:Array Oper)(t:Tmp):Bool:=(List.range ops.size).all fun j=>decide (bE ops j≠some t)
def yP(ops:Array Oper)(n:Nat):Bool:=(List.range ops.size).all fun j=>match bE ops j with|some d=>decide (d<n)|none=>true
def cE(ops:Array Oper)(i j:Nat):Bool:=((ops[i]?).map fun o=>o.after.any fun e=>Region.binds .any e&&e.on == j).getD false
theorem iE(ops:Array Oper)(ys:Nat→Value):∀(n:Nat) (a:Act),(bA ops ys n a).tmps.size=a.tmps.size
 |0,_=>rfl
 |n+1,a=>by
  unfold bA;rw[←iE ops ys n a];cases bE ops n<;>simp[Act.put]
theorem jC(ops:Array Oper)(ys:Nat→Value)(t:Tmp):∀(n:Nat) (a:Act),(∀j,j<n→bE ops j≠some t)→(bA ops ys n a).eval (.tmp t)=a.eval (.tmp t)
 |0,_,_=>rfl
 |n+1,a,h=>by
  unfold bA;rw[Act.eval_put,jC ops ys t n a (fun j hj=>h j (by omega))];rintro d hd e;injection e with e
  exact h n (by omega) (by rw[hd,e])
theorem jT(ops:Array Oper)(ys:Nat→Value)(hd:nU ops=true)(j:Nat)(d:Tmp)(hj:bE ops j=some d):∀(n:Nat) (a:Act),j<n→d<a.tmps.size→(bA ops ys n a).eval (.tmp d)=ys j
 |0,_,h,_=>absurd h (by omega)
 |n+1,a,h,hs=>by
  unfold bA;by_cases e:j=n
  ·subst e;rw[hj];have:d<(bA ops ys j a).tmps.size:=by rw[iE];exact hs
   simp[Act.put,Act.eval,Array.getD,this]
  rw[Act.eval_put,jT ops ys hd j d hj n a (by omega) hs];rintro x hx e';injection e' with e'
  subst e';exact lS hd j n e d hj hx
def nV(P:Program)(V:Value)(S:World→Prop)(o:Oper)(ev:Operand→Value)(w:World):Prop:=
 (∃w',(execOp ev o).run P w= .ok (.value V) w'∧S w')∨(∃f args w',(execOp ev o).run P w= .ok (.enter f args) w'∧Calls P f args w' (fun e w''=>e= .returned V∧S w''))
def kH(P:Program)(V:Nat→Value)(S:World→Prop)(i:Nat)(o:Oper)(ev:Operand→Value)(w:World):Prop:=match o.guard with
 |none=>nV P (V i) S o ev w
 |some (j,want)=>(V j= .bool want→nV P (V i) S o ev w)∧(V j≠ .bool want→V i=undef)
theorem jU{P:Program}{ops:Array Oper}{Q:Exit→Act→World→Prop}{V:Value}{S:World→Prop}{i:Nat}{o:Oper}{a:Act}{w:World}{K:Act→World→Prop}(ho:ops[i]?=some o)(hw:Region.wanted o (yielded ops a.tmps)=true)
  (h:nV P V S o a.eval w) (hK:∀w',S w'→K (a.put (bE ops i) V) w'):wpOp P ops Q i K a w:=by
 have hdst:bE ops i=o.dst:=by unfold bE;rw[ho];rfl
 unfold wpOp;simp only[ho];rw[if_pos hw];refine .inl ?_;unfold Oper.wp;rcases h with⟨w',h1,h2⟩|⟨f,args,w',h1,h2⟩
 ·rw[h1,Oper.upon_value,←hdst];exact hK w' h2
 rw[h1,Oper.upon_enter];refine h2.mono ?_;rintro e w'' ⟨rfl,h3⟩;simp only;rw[←hdst];exact hK w'' h3
def kI:List (Option Tmp)→Nat→(Nat→Value)→Act→Act
 |[],_,_,a=>a
 |d::r,k,ys,a=>kI r (k+1) ys (a.put d (ys k))
theorem nW(ys:Nat→Value)(d:Option Tmp):∀(l:List (Option Tmp)) (k:Nat) (a:Act),kI (l++[d]) k ys a=(kI l k ys a).put d (ys (k+l.length))
 |[],k,a=>rfl
 |x::r,k,a=>by
  rw[List.cons_append,kI,nW ys d r,kI,List.length_cons];congr 2;omega
theorem xH(ops:Array Oper)(ys:Nat→Value)(a:Act):∀n,bA ops ys n a=kI ((List.range n).map (bE ops)) 0 ys a
 |0=>rfl
 |n+1=>by
  rw[List.range_succ,List.map_append,List.map_cons,List.map_nil,nW,←xH ops ys a n];show(bA ops ys n a).put (bE ops n) (ys n)=_;simp
def mK(P:Program)(ops:Array Oper)(Q:Exit→Act→World→Prop)(n t:Nat):Exit→Act→World→Prop
 | .normal,a,w=>wpOps P ops Q (List.range' n t) a w
 |e,a,w=>Q e a w
def xI(md:Region.Mode)(ops:Array Oper)(k j:Nat):Bool:=((ops[k]?).map fun o=>o.after.any fun e=>Region.binds md e&&e.on == j).getD false
def qB(md:Region.Mode)(ops:Array Oper)(n:Nat):Bool:=(List.range ops.size).all fun k=>decide (k<n)||(List.range k).all fun j=>xI md ops k j
def kK(ops:Array Oper)(n:Nat):Bool:=(List.range n).all fun i=>match (ops[i]?).bind (·.guard) with|some (j,_)=>decide (j<n)|none=>true
theorem cD{md:Region.Mode}{ops:Array Oper}{listed:Array Bool}{i:Nat}:i ∈ Region.ready md ops listed↔i<ops.size∧listed.getD i true=false∧∀o,ops[i]?=some o→∀e ∈ o.after,Region.binds md e=true→listed.getD e.on false=true:=by
 unfold Region.ready;rw[List.mem_filter,List.mem_range];constructor
 ·rintro⟨h1,h2⟩;rw[Bool.and_eq_true,Bool.not_eq_true'] at h2;refine⟨h1,h2.1,fun o ho e he hb=>?_⟩;have h3:=h2.2;rw[ho] at h3;simp only[Option.map_some,Option.getD_some] at h3;rw[Array.all_eq_true'] at h3;have:=h3 e he;rw[hb] at this;simpa using this
 rintro⟨h1,h2,h3⟩;refine⟨h1,?_⟩;rw[Bool.and_eq_true,Bool.not_eq_true'];refine⟨h2,?_⟩;have ho:ops[i]?=some ops[i]:=by simp[h1]
 rw[ho];simp only[Option.map_some,Option.getD_some];rw[Array.all_eq_true'];intro e he;rw[Bool.or_eq_true,Bool.not_eq_true'];cases hb:Region.binds md e with
 |false=>exact .inl rfl
 |true=>exact .inr (h3 _ ho e he hb)
theorem nX{md:Region.Mode}{ops:Array Oper}{k j:Nat}(h:xI md ops k j=true):∃o,ops[k]?=some o∧∃e ∈ o.after,Region.binds md e=true∧e.on=j:=by
 unfold xI at h;cases ho:ops[k]? with
 |none=>rw[ho] at h;cases h
 |some o=>
  rw[ho] at h;simp only[Option.map_some,Option.getD_some] at h;rw[Array.any_eq_true'] at h;obtain⟨e,he,h2⟩:=h;rw[Bool.and_eq_true,beq_iff_eq] at h2;exact⟨o,rfl,e,he,h2⟩
theorem nY{md:Region.Mode}{ops:Array Oper}{n:Nat}(h:qB md ops n=true){k j:Nat}(hk:k<ops.size)(hn:n≤k)(hj:j<k):xI md ops k j=true:=by
 unfold qB at h;have h1:=List.all_eq_true.1 h k (by simpa using hk);rw[Bool.or_eq_true,decide_eq_true_iff] at h1;rcases h1 with h1|h1
 ·omega
 exact List.all_eq_true.1 h1 j (by simpa using hj)
theorem dZ{md:Region.Mode}{ops:Array Oper}(h:iD md ops=true){i:Nat}{o:Oper}(ho:ops[i]?=some o){e:Edge}(he:e ∈ o.after)(hb:Region.binds md e=true):e.on<i:=by
 have hi:i<ops.size:=by
  rcases Nat.lt_or_ge i ops.size with h'|h'
  ·exact h'
  rw[Array.getElem?_eq_none h'] at ho;cases ho
 unfold iD at h;have h1:=List.all_eq_true.1 h i (by simpa using hi);rw[ho] at h1;simp only[Option.map_some,Option.getD_some] at h1;rw[Array.all_eq_true'] at h1;have h2:=h1 e he;rw[hb] at h2;simpa using h2
theorem nD{ops:Array Oper}{n i:Nat}(hi:i<n)(hn:n≤ops.size):(ops.extract 0 n)[i]?=ops[i]?:=by
 rw[Array.getElem?_extract];simp only[Nat.zero_add];rw[if_pos (by omega)]
theorem qC{P:Program}{md:Region.Mode}{ops:Array Oper}{Q:Exit→Act→World→Prop}{n:Nat}(hf:iD md ops=true)(ht:qB md ops n=true):
  ∀(t k:Nat) (listed:Array Bool) (a:Act) (w:World),n≤k→k+t=ops.size→listed.size=ops.size→(∀j,j<ops.size→listed.getD j false=decide (j<k))→wpOps P ops Q (List.range' k t) a w→wpAny P md ops Q t listed a w
 |0,k,listed,a,w,hk,hs,hl,hv,h=>by
  refine⟨?_,h⟩;rw[List.eq_nil_iff_forall_not_mem];intro i hi;obtain⟨h1,h2,_⟩:=cD.1 hi;have:=hv i h1;rw[bC (by omega)] at h2 this;rw[h2] at this;simp at this;omega
 |t+1,k,listed,a,w,hk,hs,hl,hv,h=>by
  have hkr:∀i ∈ Region.ready md ops listed,i=k:=by
   intro i hi;obtain⟨h1,h2,h3⟩:=cD.1 hi;have h4:=hv i h1;rw[bC (by omega)] at h2 h4;rw[h2] at h4;have h4:¬i<k:=by simpa using h4.symm
   rcases Nat.lt_or_ge k i with h5|h5
   ·obtain⟨o,ho,e,he,hb,hj⟩:=nX (nY ht h1 (by omega) h5);have h6:=h3 o ho e he hb;rw[hj,hv k (by omega)] at h6;simp at h6
   omega
  refine⟨fun hr=>?_,fun i hi=>?_⟩
  ·exfalso;have:k ∈ Region.ready md ops listed:=cD.2 ⟨by omega,by have:=hv k (by omega);rw[bC (by omega)] at this ⊢;rw[this];simp,fun o ho e he hb=>by
    have:=dZ hf ho he hb;rw[hv e.on (by omega)];simpa using this⟩
   rw[hr] at this;cases this
  obtain rfl:=hkr i hi;rw[List.range'_succ,wpOps_cons] at h;refine wpOp_mono (fun a' w' h'=>qC hf ht t (i+1) _ a' w' (by omega) (by omega) (by simpa using hl) (fun j hj=>?_) h') h;by_cases hji:j=i
  ·subst hji;rw[bC (by simp;omega)];simp
  have h5:=hv j hj;rw[bC (by omega)] at h5;rw[bC (by simp;omega),Array.getElem_setIfInBounds (by omega),if_neg (fun h=>hji h.symm),h5];rw[decide_eq_decide];omega
theorem nZ{P:Program}{ops:Array Oper}{Q:Exit→Act→World→Prop}{n t i:Nat}(hi:i<n)(hn:n≤ops.size)(hg:kK ops n=true){K K':Act→World→Prop}{a:Act}{w:World}(hK:∀a w,K a w→K' a w)
  (h:wpOp P (ops.extract 0 n) (mK P ops Q n t) i K a w):wpOp P ops Q i K' a w:=by
 have hex:(ops.extract 0 n)[i]?=ops[i]?:=nD hi hn;have hL:LetsOut (mK P ops Q n t)→LetsOut Q:=fun⟨a,w,h⟩=>⟨a,w,h⟩;unfold wpOp at h ⊢;rw[hex] at h;cases ho:ops[i]? with
 |none=>rw[ho] at h;exact hK _ _ h
 |some o=>
  rw[ho] at h;simp only at h ⊢;have hw:Region.wanted o (yielded (ops.extract 0 n) a.tmps)=Region.wanted o (yielded ops a.tmps):=by
   unfold Region.wanted;cases hgu:o.guard with
   |none=>rfl
   |some jw=>
    obtain⟨j,want⟩:=jw;simp only;unfold kK at hg;have h1:=List.all_eq_true.1 hg i (by simpa using hi);rw[ho] at h1;simp only[Option.bind_some,hgu] at h1;have h1:j<n:=of_decide_eq_true h1;unfold yielded;rw[nD h1 hn]
  rw[hw] at h;split
  ·rename_i hw2;rw[if_pos hw2] at h;refine h.imp (fun h=>?_) (fun h=>⟨h.1,hL h.2⟩);unfold Oper.wp at*
   generalize(execOp a.eval o).run P w=r at*
   cases r with
   |ok nx w'=>
    cases nx<;>simp only[Oper.upon] at h ⊢<;>
     first
      |exact hK _ _ h
      |exact Calls.mono h (fun e w'' he=>by cases e<;>first|exact hK _ _ he|exact he|exact hL he)
      |exact Rows.mono h (fun _ _ he=>hK _ _ he)
   |halt x w'=>cases x<;>simp only[Oper.upon] at h ⊢<;>exact h
  rename_i hw2;rw[if_neg hw2] at h;exact hK _ _ h
theorem Fs{p:Prop}(h:p:=by
 apply Classical.byContradiction;intro hh;have:∀j,j<n→front.getD j false=true:=fun j hj=>by
  cases hq:front.getD j false with
  |true=>rfl
  |false=>exact absurd ⟨j,hj,hq⟩ hh
 have:front.toList.count false=0:=by
  rw[List.count_eq_zero];intro hm;obtain⟨j,hj,he⟩:=List.getElem_of_mem hm;have hj':j<front.size:=by simpa using hj
  have h2:=this j (by omega);rw[bC hj'] at h2;simp only[Array.getElem_toList] at he;rw[he] at h2;cases h2
 omega):p:=h
theorem Ft{p:Prop}(h:p:=by
 intro i;rw[cD,cD,hsz];constructor
 ·rintro⟨h1,h2,h3⟩;refine⟨h1,by omega,by rw[hgt i h1];exact h2,fun o ho e he hb=>?_⟩;have h4:=dZ hf ho he hb;rw[hv e.on (by omega)];exact h3 o (by rw[nD h1 hn];exact ho) e he hb
 rintro⟨h1,h2,h3,h5⟩;refine⟨h1,by rw[←hgt i h1];exact h3,fun o ho e he hb=>?_⟩;have ho':ops[i]?=some o:=by rw[nD h1 hn] at ho;exact ho
 have h4:=dZ hf ho' he hb;rw[←hv e.on (by omega)];exact h5 o ho' e he hb):p:=h
theorem mL{P:Program}{md:Region.Mode}{ops:Array Oper}{Q:Exit→Act→World→Prop}{n:Nat}(hn:n≤ops.size)(hf:iD md ops=true)(ht:qB md ops n=true)(hg:kK ops n=true):
  ∀(fuel:Nat) (front listed:Array Bool) (a:Act) (w:World),front.size=n→listed.size=ops.size→(∀j,j<ops.size→listed.getD j false=front.getD j false)→front.toList.count false=fuel→wpAny P md (ops.extract 0 n) (mK P ops Q n (ops.size - n)) fuel front a w→wpAny P md ops Q (fuel+(ops.size - n)) listed a w
 |fuel,front,listed,a,w,hs,hl,hv,hc,h=>by
  have hsz:(ops.extract 0 n).size=n:=by simp;omega
  have hgt:∀j,j<n→listed.getD j true=front.getD j true:=fun j hj=>by
   have:=hv j (by omega);rw[bC (by omega),bC (by omega)] at this;rw[bC (by omega),bC (by omega),this]
  have hrd:∀i,i ∈ Region.ready md (ops.extract 0 n) front↔(i<n∧i ∈ Region.ready md ops listed):=by
   exact Ft
  cases fuel with
  |zero=>
   have hall:∀j,j<n→front.getD j false=true:=by
    intro j hj;rw[bC (by omega)];cases hl':front[j]'(by omega) with
    |true=>rfl
    |false=>
     exfalso;have:false ∈ front.toList:=by rw[←hl'];simp
     have:=List.count_pos_iff.2 this;omega
   rw[Nat.zero_add];refine qC hf ht (ops.size - n) n listed a w (Nat.le_refl _) (by omega) hl (fun j hj=>?_) h.2;rw[hv j hj];by_cases hj':j<n
   ·rw[hall j hj',decide_eq_true hj']
   rw[decide_eq_false hj'];simp only[Array.getD];rw[dif_neg (by omega)]
  |succ fuel=>
   obtain⟨h0,h1⟩:=h;rw[show fuel+1+(ops.size - n)=(fuel+(ops.size - n))+1 by omega];have hne:∃j,j<n∧front.getD j false=false:=by
    exact Fs
   refine⟨fun hr=>?_,fun i hi=>?_⟩
   ·exfalso;have:∀j,j<n→front.getD j false=true:=by
     intro j;induction j using Nat.strongRecOn with
     |_ j ih=>
      intro hj;cases hq:front.getD j false with
      |true=>rfl
      |false=>
       exfalso;have:j ∈ Region.ready md ops listed:=by
        refine cD.2 ⟨by omega,?_,fun o ho e he hb=>?_⟩
        ·rw[hgt j hj];rw[bC (by omega)] at hq ⊢;exact hq
        have h4:=dZ hf ho he hb;rw[hv e.on (by omega)];exact ih e.on h4 (by omega)
       rw[hr] at this;cases this
    obtain⟨j,hj,hq⟩:=hne;rw[this j hj] at hq;cases hq
   have hi2:=cD.1 hi;have hin:i<n:=by
    rcases Nat.lt_or_ge i n with h'|h'
    ·exact h'
    exfalso;obtain⟨j,hj,hq⟩:=hne;obtain⟨o,ho,e,he,hb,hej⟩:=nX (nY ht hi2.1 h' (show j<i by omega));have:=hi2.2.2 o ho e he hb;rw[hej,hv j (by omega),hq] at this;cases this
   refine nZ hin hn hg (fun a' w' h'=>?_) (h1 i ((hrd i).2 ⟨hin,hi⟩));refine mL hn hf ht hg fuel (front.setIfInBounds i true) (listed.setIfInBounds i true) a' w' (by simpa using hs) (by simpa using hl) (fun j hj=>?_) ?_ h'
   ·by_cases hjn:j<n
    ·rw[bC (by simp;omega),bC (by simp;omega),Array.getElem_setIfInBounds,Array.getElem_setIfInBounds];split
     ·rfl
     have:=hv j hj;rw[bC (by omega),bC (by omega)] at this;exact this
    have:=hv j hj;rw[bC (by omega)] at this;rw[bC (by simp;omega),Array.getElem_setIfInBounds (by omega),if_neg (by omega),this];simp only[Array.getD,Array.size_setIfInBounds];rw[dif_neg (by omega),dif_neg (by omega)]
   have h4:=nC front.toList i (by
    have h5:=hi2.2.1;rw[hgt i hin,bC (by omega)] at h5;simp[List.getD,show i<front.size by omega,h5])
   rw[Array.toList_setIfInBounds];omega
theorem mT{P:Program}{ops:Array Oper}{Q:Exit→Act→World→Prop}{S:World→Prop}{id:Nat}{a:Act}{w:World}(n:Nat)(hm:P.follows .mixedOrders=true)(hn:n≤ops.size)(hf:iD .any ops=true)(ht:qB .any ops n=true)(hg:kK ops n=true)(hS:S w.drew)
  (h:S w.drew→wpAnyH P .any (ops.extract 0 n) (mK P ops Q n (ops.size - n)) S n (Array.replicate n false) a w.drew):(Code.region id ops true).wp P Q a w:=by
 refine wp_region_any hm ?_;have h1:=wpAny_of_held _ _ _ _ (h hS);have h2:=mL hn hf ht hg n (Array.replicate n false) (Array.replicate ops.size false) a w.drew (by simp) (by simp) (fun j hj=>by
  simp only[Array.getD];split<;>split<;>simp) (by simp[List.count_replicate]) h1
 rw[show n+(ops.size - n)=ops.size by omega] at h2;exact h2
def kL(P:Program)(ops:Array Oper)(Q:Exit→Act→World→Prop)(n:Nat):Exit→Act→World→Prop
 | .normal,a,w=>wpList P ops Q (ops.toList.drop n) a w
 |e,a,w=>Q e a w
theorem tT(P:Program)(ops:Array Oper)(Q:Exit→Act→World→Prop)(n:Nat):mK P ops Q n (ops.size - n)=kL P ops Q n:=by
 have h:=wpOps_eq_wpList (P:=P) (Q:=Q) (ops:=ops) (ops.toList.drop n) n (fun j=>by rw[List.getElem?_drop];simp);rw[List.length_drop,Array.length_toList] at h;funext e a w;cases e<;>simp only[mK,kL];rw[h]
theorem tU(ops:Array Oper)(n:Nat):ops.extract 0 n=(ops.toList.take n).toArray:=by
 apply Array.toList_inj.1;simp
theorem fH{P:Program}{ops:Array Oper}{Q:Exit→Act→World→Prop}(S:World→Prop){id:Nat}{a:Act}{w:World}(n:Nat)(hm:P.follows .mixedOrders=true)(hn:n≤ops.size)(hf:iD .any ops=true)(ht:qB .any ops n=true)(hg:kK ops n=true)(hS:S w.drew)
  (h:S w.drew→wpAnyH P .any (ops.toList.take n).toArray (kL P ops Q n) S n (Array.replicate n false) a w.drew):(Code.region id ops true).wp P Q a w:=by
 refine mT (S:=S) n hm hn hf ht hg hS fun hS=>?_;rw[tT,tU];exact h hS
def Fv(P:Program)(J:(Nat→Prop)→(Nat→Value)→World→Prop)(L:Nat→Prop)(ys:Nat→Value)(i:Nat)(o:Oper)(ev:Operand→Value)(w:World):Prop:=
 (∃v w',(execOp ev o).run P w= .ok (.value v) w'∧J (fun k=>L k∨k=i) (cW ys i v) w')∨
 (∃w',(execOp ev o).run P w= .ok .skip w'∧J (fun k=>L k∨k=i) (cW ys i undef) w')∨
 (∃f args w',(execOp ev o).run P w= .ok (.enter f args) w'∧Calls P f args w' fun e w''=>∃v,e= .returned v∧J (fun k=>L k∨k=i) (cW ys i v) w'')
def Clo(ops:Array Oper)(L:Nat→Prop):Prop:=∀i j,cE ops i j=true→L i→L j
theorem CZ{p:Prop}(h:p:=by
 intro j d hj;unfold yP at hn;have:=List.all_eq_true.1 hn j (by simpa using hlt j d hj);rw[hj] at this;have:d<N:=of_decide_eq_true this;exact Nat.lt_of_lt_of_le this hN):p:=h
theorem mM{P:Program}{ops:Array Oper}{Q:Exit→Act→World→Prop}{id:Nat}{a0:Act}{w:World}(J:(Nat→Prop)→(Nat→Value)→World→Prop)(dsts:List (Option Tmp))(N:Nat)
  (hm:P.follows .mixedOrders=true) (hd:nU ops=true) (hf:iD .any ops=true) (hn:yP ops N=true) (hN:N≤a0.tmps.size) (hD:(List.range ops.size).map (bE ops)=dsts)
  (hgu:(ops.all fun o=>o.guard.isNone)=true) (h0:∀ys,J (fun _=>False) ys w.drew)
  (hstep:∀(i:Nat),i<ops.size→∀(L:Nat→Prop) (ys:Nat→Value) (ev:Operand→Value) (w:World),J L ys w→¬L i→Clo ops L→(∀j,cE ops i j=true→L j)→(∀v,ev (.const v)=v)→(∀f,ev (.func f)= .func (.func f) #[] #[])→(∀g,ev (.global g)= .pointer (some ⟨g,0,none⟩))→(∀j d,bE ops j=some d→ev (.tmp d)=ys j)→(∀t,fC ops t=true→ev (.tmp t)=a0.eval (.tmp t))→
   ∀o,ops[i]?=some o→Fv P J L ys i o ev w)
  (hend:∀(L:Nat→Prop) (ys:Nat→Value) (w:World),J L ys w→(∀i,i<ops.size→L i)→Q .normal (kI dsts 0 ys a0) w):(Code.region id ops true).wp P Q a0 w:=by
 have hdep:∀{i j:Nat} {o:Oper},ops[i]?=some o→cE ops i j=true→∃e ∈ o.after,Region.binds .any e=true∧e.on=j:=by
  intro i j o ho h;unfold cE at h;rw[ho] at h;simp only[Option.map_some,Option.getD_some] at h;rw[Array.any_eq_true'] at h;obtain⟨e,he,h2⟩:=h;rw[Bool.and_eq_true,beq_iff_eq] at h2;exact⟨e,he,h2⟩
 have hlt:∀j d,bE ops j=some d→j<ops.size:=by
  intro j d hj;rcases Nat.lt_or_ge j ops.size with h'|h'
  ·exact h'
  unfold bE at hj;rw[Array.getElem?_eq_none h'] at hj;cases hj
 refine gX (fun L ys w=>J L ys w∧Clo ops L) (fun ys=>bA ops ys ops.size a0) hm hd hf (fun _=>rfl) (fun ys=>⟨h0 ys,fun _ _ _ h=>h.elim⟩) ?_ ?_
 ·rintro L ys w i ⟨hJ,hC⟩ hi hL hdp;obtain⟨o,ho⟩:∃o,ops[i]?=some o:=⟨ops[i],by simp[hi]⟩;have hdj:∀j,cE ops i j=true→L j:=fun j hj=>by
   obtain⟨e,he,hb,hej⟩:=hdep ho hj;rw[←hej];exact hdp o ho e he hb
  have hg:o.guard=none:=by
   rw[Array.all_eq_true'] at hgu;have:=hgu o (Array.mem_of_getElem? ho);simpa using this
  have hC':Clo ops (fun k=>L k∨k=i):=fun a b hab h=>by
   rcases h with h|h
   ·exact .inl (hC a b hab h)
   subst h;exact .inl (hdj b hab)
  have hin:∀j d,bE ops j=some d→d<a0.tmps.size:=by
   exact CZ
  have hG:=hstep i hi L ys (bA ops ys ops.size a0).eval w hJ hL hC hdj (fun _=>rfl) (fun _=>rfl) (fun _=>rfl) (fun j d hj=>jT ops ys hd j d hj ops.size a0 (hlt j d hj) (hin j d hj)) (fun t ht=>jC ops ys t ops.size a0 (fun j hj=>by
   unfold fC at ht;have:=List.all_eq_true.1 ht j (by simpa using hj);simpa using this)) o ho
  rcases hG with⟨v,w',h1,h2⟩|⟨w',h1,h2⟩|⟨f,args,w',h1,h2⟩
  ·exact yO (J:=fun L ys w=>J L ys w∧Clo ops L) ho hg h1 ⟨h2,hC'⟩
  ·exact vU (J:=fun L ys w=>J L ys w∧Clo ops L) ho hg h1 ⟨h2,hC'⟩
  refine vV (J:=fun L ys w=>J L ys w∧Clo ops L) ho hg h1 (h2.mono ?_);rintro e w'' ⟨v,rfl,h3⟩;exact⟨v,rfl,h3,hC'⟩
 rintro L ys w ⟨hJ,_⟩ hL;show Q .normal (bA ops ys ops.size a0) w;rw[xH,hD];exact hend L ys w hJ hL
theorem yQ{P:Program}{md:Region.Mode}(hmd:md= .any){ops:Array Oper}{Q:Exit→Act→World→Prop}{a0:Act}{w:World}(V:Nat→Value)(S:World→Prop)(N:Nat)
  (hd:nU ops=true) (hf:iD .any ops=true) (hn:yP ops N=true) (hN:N≤a0.tmps.size) (h0:S w)
  (hgd:((List.range ops.size).all fun i=>match (ops[i]?).bind (·.guard) with|some (j,_)=>cE ops i j&&(bE ops j).isSome|none=>true)=true)
  (hstep:∀(i:Nat),i<ops.size→∀(ev:Operand→Value) (w:World),S w→(∀v,ev (.const v)=v)→(∀f,ev (.func f)= .func (.func f) #[] #[])→(∀g,ev (.global g)= .pointer (some ⟨g,0,none⟩))→(∀j d,bE ops j=some d→cE ops i j=true→ev (.tmp d)=V j)→(∀t,fC ops t=true→ev (.tmp t)=a0.eval (.tmp t))→
   ∀o,ops[i]?=some o→kH P V S i o ev w)
  (hend:∀w',S w'→Q .normal (bA ops V ops.size a0) w'):wpAny P md ops Q ops.size (Array.replicate ops.size false) a0 w:=by
 subst hmd;rw[←jS ops a0 ops.size];refine qA (P:=P) (md:=.any) (ops:=ops) (Q:=Q) a0 (fun L ys w=>S w∧∀j,j<ops.size→L j→ys j=V j) hd hf ?_ ?_ ops.size (Array.replicate ops.size false) _ w (by simp) (by simp[List.count_replicate]) ?_
 ·rintro L ys w i ⟨hS,hV⟩ hi hL hdep;obtain⟨o,ho⟩:∃o,ops[i]?=some o:=⟨ops[i],by simp[hi]⟩;have hlt:∀j d,bE ops j=some d→j<ops.size:=by
   intro j d hj;rcases Nat.lt_or_ge j ops.size with h'|h'
   ·exact h'
   unfold bE at hj;rw[Array.getElem?_eq_none h'] at hj;cases hj
  have hdb:∀j,cE ops i j=true→L j:=by
   intro j hj;unfold cE at hj;rw[ho] at hj;simp only[Option.map_some,Option.getD_some] at hj;rw[Array.any_eq_true'] at hj;obtain⟨e,he,he2⟩:=hj;rw[Bool.and_eq_true,beq_iff_eq] at he2;rw[←he2.2];exact hdep o ho e he he2.1
  have hin:∀j d,bE ops j=some d→d<a0.tmps.size:=by
   exact CZ
  have hev:∀j d,bE ops j=some d→cE ops i j=true→(bA ops ys ops.size a0).eval (.tmp d)=V j:=fun j d hj hdp=>by
   rw[jT ops ys hd j d hj ops.size a0 (hlt j d hj) (hin j d hj),hV j (hlt j d hj) (hdb j hdp)]
  have hg:=hstep i hi (bA ops ys ops.size a0).eval w hS (fun _=>rfl) (fun _=>rfl) (fun _=>rfl) hev (fun t ht=>jC ops ys t ops.size a0 (fun j hj=>by
   unfold fC at ht;have:=List.all_eq_true.1 ht j (by simpa using hj);simpa using this)) o ho
  have hJ:∀w',S w'→∃v,(bA ops ys ops.size a0).put (bE ops i) (V i)=(bA ops ys ops.size a0).put (bE ops i) v∧S w'∧∀j,j<ops.size→(L j∨j=i)→cW ys i v j=V j:=fun w' hS'=>⟨V i,rfl,hS',fun j hj hL'=>by
   unfold cW;by_cases e:j=i
   ·rw[if_pos e,e]
   rw[if_neg e];exact hV j hj (hL'.resolve_right e)⟩
  unfold kH at hg;cases hgu:o.guard with
  |none=>
   rw[hgu] at hg;exact jU ho (by unfold Region.wanted;rw[hgu]) hg hJ
  |some jw=>
   obtain⟨j,want⟩:=jw;rw[hgu] at hg;have hdj2:cE ops i j=true∧(bE ops j).isSome=true:=by
    have:=List.all_eq_true.1 hgd i (by simpa using hi);rw[ho] at this;simp only[Option.bind_some,hgu,Bool.and_eq_true] at this;exact this
   have hdj:=hdj2.1;have hy:yielded ops (bA ops ys ops.size a0).tmps j=some want↔V j= .bool want:=by
    unfold yielded;cases hdd:bE ops j with
    |none=>
     have:=hdj2.2;rw[hdd] at this;cases this
    |some d=>
     have hb:(ops[j]?).bind (·.dst)=some d:=hdd;have he:=hev j d hdd hdj;have hs:d<(bA ops ys ops.size a0).tmps.size:=by rw[iE];exact hin j d hdd
     rw[hb];simp only[Option.bind_some,Array.getElem?_eq_getElem hs];have:(bA ops ys ops.size a0).tmps[d]=V j:=by
      rw[←he];simp[Act.eval,Array.getD,hs]
     rw[this];cases V j<;>simp
   by_cases hvw:V j= .bool want
   ·exact jU ho (by unfold Region.wanted;rw[hgu];simp only;rw[hy.2 hvw];simp) (hg.1 hvw) hJ
   have hw:Region.wanted o (yielded ops (bA ops ys ops.size a0).tmps)=false:=by
    unfold Region.wanted;rw[hgu];simp only;rw[beq_eq_false_iff_ne];exact fun h=>hvw (hy.1 h)
   unfold wpOp;simp only[ho];rw[if_neg (by rw[hw];simp)];have hdst:bE ops i=o.dst:=by unfold bE;rw[ho];rfl
   rw[←hdst,←hg.2 hvw];exact hJ w hS
 ·rintro L ys w ⟨hS,hV⟩ hL;rw[gI ops (ys:=ys) (zs:=V) ops.size a0 (fun j hj=>hV j hj (hL j hj))];exact hend w hS
 exact⟨h0,fun j hj h=>by
  exfalso;simp only[Array.getD] at h;split at h<;>simp at h⟩
def aG:List Value→Nat→Value
 |[],_=>undef
 |v::_,0=>v
 |_::r,n+1=>aG r n
structure jD (ops:Array Oper) (a0:Act) (i:Nat) (vs:List Value) (ev:Operand→Value):Prop where
 const:∀v,ev (.const v)=v
 func:∀f,ev (.func f)= .func (.func f) #[] #[]
 glob:∀g,ev (.global g)= .pointer (some ⟨g,0,none⟩)
 tmp:∀j d m,j+m+1=i→bE ops j=some d→cE ops i j=true→ev (.tmp d)=aG vs m
 out:∀t,fC ops t=true→ev (.tmp t)=a0.eval (.tmp t)
def FxL(P:Program)(ops:Array Oper)(S:World→Prop)(a0:Act)(K:List Value→World→Prop):List Oper→Nat→List Value→Prop
 |[],_,vs=>∀W,S W→K vs W
 |o::r,i,vs=>∃v,(∀ev w,S w→jD ops a0 i vs ev→match o.guard with
   |none=>nV P v S o ev w
   |some (j,want)=>(aG vs (i - 1 - j)= .bool want→nV P v S o ev w)∧(aG vs (i - 1 - j)≠ .bool want→v=undef))∧FxL P ops S a0 K r (i+1) (v::vs)
theorem FxL.pure{P:Program}{ops:Array Oper}{S:World→Prop}{a0:Act}{K:List Value→World→Prop}{o:Oper}{r:List Oper}{i:Nat}{vs:List Value}{v:Value}(hg:o.guard=none)
  (h:∀ev w,S w→jD ops a0 i vs ev→(execOp ev o).run P w= .ok (.value v) w) (hr:FxL P ops S a0 K r (i+1) (v::vs)):FxL P ops S a0 K (o::r) i vs:=
 ⟨v,fun ev w hS E=>by rw[hg];exact .inl ⟨w,h ev w hS E,hS⟩,hr⟩
theorem FxL.call{P:Program}{ops:Array Oper}{S:World→Prop}{a0:Act}{K:List Value→World→Prop}{o:Oper}{r:List Oper}{i:Nat}{vs:List Value}{v:Value}{f:FuncId}{args:Array Value}(hg:o.guard=none)
  (h:∀ev w,S w→jD ops a0 i vs ev→(execOp ev o).run P w= .ok (.enter f args) w) (hc:∀w,S w→Calls P f args w fun e w''=>e= .returned v∧S w'') (hr:FxL P ops S a0 K r (i+1) (v::vs)):FxL P ops S a0 K (o::r) i vs:=
 ⟨v,fun ev w hS E=>by rw[hg];exact .inr ⟨f,args,w,h ev w hS E,hc w hS⟩,hr⟩
theorem FxL.skip{P:Program}{ops:Array Oper}{S:World→Prop}{a0:Act}{K:List Value→World→Prop}{o:Oper}{r:List Oper}{i:Nat}{vs:List Value}{j:Nat}{want:Bool}(hg:o.guard=some (j,want))(m:Nat)(hm:j+m+1=i)(hj:aG vs m≠ .bool want)
  (hr:FxL P ops S a0 K r (i+1) (undef::vs)):FxL P ops S a0 K (o::r) i vs:=
 ⟨undef,fun ev w hS E=>by rw[hg];exact⟨fun hh=>absurd hh (show aG vs (i - 1 - j)≠ .bool want by rw[show i - 1 - j=m by omega];exact hj),fun _=>rfl⟩,hr⟩
theorem FxL.done{P:Program}{ops:Array Oper}{S:World→Prop}{a0:Act}{K:List Value→World→Prop}{i:Nat}{vs:List Value}(h:∀W,S W→K vs W):FxL P ops S a0 K [] i vs:=h
def evT(ev:Operand→Value)(vs:List Value):List (Nat × Nat × Nat)→Prop→Prop
 |[],K=>K
 |(m,_,d)::r,K=>ev (.tmp d)=aG vs m∧evT ev vs r K
def evU(ev:Operand→Value)(a0:Act):List Nat→Prop→Prop
 |[],K=>K
 |t::r,K=>ev (.tmp t)=a0.eval (.tmp t)∧evU ev a0 r K
def evC(ev:Operand→Value):Prop:=(∀v,ev (.const v)=v)∧(∀f,ev (.func f)= .func (.func f) #[] #[])∧∀g,ev (.global g)= .pointer (some ⟨g,0,none⟩)
theorem vW{ev:Operand→Value}{a0:Act}{ops:Array Oper}(h:∀t,fC ops t=true→ev (.tmp t)=a0.eval (.tmp t)){K:Prop}(k:K):∀o:List Nat,o.all (fC ops)=true→evU ev a0 o K
 |[],_=>k
 |t::r,ho=>by
  rw[List.all_cons,Bool.and_eq_true] at ho;exact⟨h t ho.1,vW h k r ho.2⟩
theorem jD.get{ops:Array Oper}{a0:Act}{i:Nat}{vs:List Value}{ev:Operand→Value}(E:jD ops a0 i vs ev):∀(l:List (Nat × Nat × Nat)) (o:List Nat),(l.all (fun x=>x.2.1+x.1+1 == i&&(bE ops x.2.1 == some x.2.2&&cE ops i x.2.1))&&o.all (fC ops))=true→evT ev vs l (evU ev a0 o (evC ev))
 |[],o,h=>vW E.out ⟨E.const,E.func,E.glob⟩ o (by simpa using h)
 |(m,j,d)::r,o,h=>by
  rw[List.all_cons,Bool.and_eq_true,Bool.and_eq_true,Bool.and_eq_true,Bool.and_eq_true,beq_iff_eq,beq_iff_eq] at h;exact⟨E.tmp j d m h.1.1.1 h.1.1.2.1 h.1.1.2.2,jD.get E r o (by rw[Bool.and_eq_true];exact⟨h.1.2,h.2⟩)⟩
def gwV(g:Value)(want:Bool)(u:Value):Value:=match g with
 | .bool b=>bif b == want then u else undef
 |_=>undef
theorem bG(b:Bool)(u:Value):gwV (.bool b) b u=u:=by cases b<;>rfl
theorem jE{g:Value}{want:Bool}{u:Value}(h:g≠ .bool want):gwV g want u=undef:=by
 cases g<;>try rfl
 rename_i b;cases b<;>cases want<;>first|rfl|exact absurd rfl h
section
variable {P:Program} {ops:Array Oper} {S:World→Prop} {a0:Act} {K:List Value→World→Prop} {o:Oper} {r:List Oper} {i:Nat} {vs:List Value} {u:Value} {j:Nat} {want:Bool} {f:FuncId} {args:Array Value}
theorem FxL.gw{g:Value}(hg:o.guard=some (j,want))(m:Nat)(hm:j+m+1=i)(hgv:aG vs m=g)(h:g= .bool want→∀ev w,S w→jD ops a0 i vs ev→(execOp ev o).run P w= .ok (.value u) w)(hr:FxL P ops S a0 K r (i+1) (gwV g want u::vs)):FxL P ops S a0 K (o::r) i vs:=
 ⟨_,fun ev w hS E=>by
  rw[hg];have e:aG vs (i - 1 - j)=g:=by rw[show i - 1 - j=m by omega];exact hgv
  simp only[e];refine⟨fun hh=>.inl ⟨w,?_,hS⟩,fun hh=>jE hh⟩;rw[hh,bG];exact h hh ev w hS E,hr⟩
theorem FxL.gwc{g:Value}(hg:o.guard=some (j,want))(m:Nat)(hm:j+m+1=i)(hgv:aG vs m=g)(h:g= .bool want→∀ev w,S w→jD ops a0 i vs ev→(execOp ev o).run P w= .ok (.enter f args) w)(hc:g= .bool want→∀w,S w→Calls P f args w fun e w''=>e= .returned u∧S w'')(hr:FxL P ops S a0 K r (i+1) (gwV g want u::vs)):FxL P ops S a0 K (o::r) i vs:=
 ⟨_,fun ev w hS E=>by
  rw[hg];have e:aG vs (i - 1 - j)=g:=by rw[show i - 1 - j=m by omega];exact hgv
  simp only[e];refine⟨fun hh=>.inr ⟨f,args,w,h hh ev w hS E,?_⟩,fun hh=>jE hh⟩;rw[hh,bG];exact hc hh w hS,hr⟩
theorem dI{ev:Operand→Value}{w:World}{c a b:Operand}(hop:o.op= .pick c a b){t:Bool}(hc:ev c= .bool t):(execOp ev o).run P w= .ok (.value (bif t then ev a else ev b)) w:=by
 unfold execOp;simp only[hop,hc,asBool,Sem.run_bind,Sem.run_pure,Result.andThen_ok];cases t<;>rfl
theorem FxL.por{a b:Nat}{e d:Bool}(hg:o.guard=none)(hop:o.op= .pick (.tmp a) (.const (.bool true)) (.tmp b))(ma ja mb jb:Nat)(hE:([(ma,ja,a),(mb,jb,b)].all (fun x=>x.2.1+x.1+1 == i&&(bE ops x.2.1 == some x.2.2&&cE ops i x.2.1))&&[].all (fC ops))=true)
  (ha:aG vs ma= .bool e) (hb:aG vs mb=gwV (.bool e) false (.bool d)) (hr:FxL P ops S a0 K r (i+1) (.bool (e||d)::vs)):FxL P ops S a0 K (o::r) i vs:=
 FxL.pure hg (fun ev w _ E=>by
  obtain⟨h1,h2,h3, -⟩:=E.get _ _ hE;rw[dI hop (h1.trans ha),h3,h2,hb];cases e<;>rfl) hr
theorem FxL.pand{a b:Nat}{e d:Bool}(hg:o.guard=none)(hop:o.op= .pick (.tmp a) (.tmp b) (.const (.bool false)))(ma ja mb jb:Nat)(hE:([(ma,ja,a),(mb,jb,b)].all (fun x=>x.2.1+x.1+1 == i&&(bE ops x.2.1 == some x.2.2&&cE ops i x.2.1))&&[].all (fC ops))=true)
  (ha:aG vs ma= .bool e) (hb:aG vs mb=gwV (.bool e) true (.bool d)) (hr:FxL P ops S a0 K r (i+1) (.bool (e&&d)::vs)):FxL P ops S a0 K (o::r) i vs:=
 FxL.pure hg (fun ev w _ E=>by
  obtain⟨h1,h2,h3, -⟩:=E.get _ _ hE;rw[dI hop (h1.trans ha),h3,h2,hb];cases e<;>rfl) hr
theorem FxL.gpor{a b:Nat}{e d:Bool}{g:Value}(hg:o.guard=some (j,want))(hop:o.op= .pick (.tmp a) (.const (.bool true)) (.tmp b))(m:Nat)(hm:j+m+1=i)(hgv:aG vs m=g)(ma ja mb jb:Nat)(hE:([(ma,ja,a),(mb,jb,b)].all (fun x=>x.2.1+x.1+1 == i&&(bE ops x.2.1 == some x.2.2&&cE ops i x.2.1))&&[].all (fC ops))=true)
  (ha:aG vs ma=gwV g want (.bool e)) (hb:aG vs mb=gwV (gwV g want (.bool e)) false (.bool d)) (hr:FxL P ops S a0 K r (i+1) (gwV g want (.bool (e||d))::vs)):FxL P ops S a0 K (o::r) i vs:=by
 refine FxL.gw hg m hm hgv (fun hh ev w _ E=>?_) hr;obtain⟨h1,h2,h3, -⟩:=E.get _ _ hE;subst hh;rw[bG] at ha hb;rw[dI hop (h1.trans ha),h3,h2,hb];cases e<;>rfl
theorem FxL.gpand{a b:Nat}{e d:Bool}{g:Value}(hg:o.guard=some (j,want))(hop:o.op= .pick (.tmp a) (.tmp b) (.const (.bool false)))(m:Nat)(hm:j+m+1=i)(hgv:aG vs m=g)(ma ja mb jb:Nat)(hE:([(ma,ja,a),(mb,jb,b)].all (fun x=>x.2.1+x.1+1 == i&&(bE ops x.2.1 == some x.2.2&&cE ops i x.2.1))&&[].all (fC ops))=true)
  (ha:aG vs ma=gwV g want (.bool e)) (hb:aG vs mb=gwV (gwV g want (.bool e)) true (.bool d)) (hr:FxL P ops S a0 K r (i+1) (gwV g want (.bool (e&&d))::vs)):FxL P ops S a0 K (o::r) i vs:=by
 refine FxL.gw hg m hm hgv (fun hh ev w _ E=>?_) hr;obtain⟨h1,h2,h3, -⟩:=E.get _ _ hE;subst hh;rw[bG] at ha hb;rw[dI hop (h1.trans ha),h3,h2,hb];cases e<;>rfl
end
theorem FxL.spec{P:Program}{ops:Array Oper}{S:World→Prop}{a0:Act}{K:List Value→World→Prop}(hf:iD .any ops=true)(hgb:((List.range ops.size).all fun i=>match (ops[i]?).bind (·.guard) with|some (j,_)=>decide (j<i)|none=>true)=true):
  ∀(l:List Oper) (i:Nat) (vs:List Value),i≤ops.size→ops.toList.drop i=l→vs.length=i→FxL P ops S a0 K l i vs→
   ∃V:Nat→Value,(∀j,j<i→V j=aG vs (i - 1 - j))∧(∀k o,i≤k→ops[k]?=some o→∀ev w,S w→(∀v,ev (.const v)=v)→(∀f,ev (.func f)= .func (.func f) #[] #[])→(∀g,ev (.global g)= .pointer (some ⟨g,0,none⟩))→(∀j d,bE ops j=some d→cE ops k j=true→ev (.tmp d)=V j)→(∀t,fC ops t=true→ev (.tmp t)=a0.eval (.tmp t))→kH P V S k o ev w)∧(∃ws:List Value,ws.length=ops.size∧(∀j,j<ops.size→V j=aG ws (ops.size - 1 - j))∧∀W,S W→K ws W)
 |[],i,vs,hle,hl,hv,h=>by
  have hi:i=ops.size:=by
   have:=congrArg List.length hl;simp at this;omega
  subst hi;refine⟨fun j=>aG vs (ops.size - 1 - j),fun j _=>rfl,fun k o hk ho=>?_,vs,hv,fun j _=>rfl,h⟩;rw[Array.getElem?_eq_none (by omega)] at ho;cases ho
 |o::r,i,vs,hle,hl,hv,h=>by
  obtain⟨v,h1,h2⟩:=h;have hoi:ops[i]?=some o:=by
   have:=congrArg (fun l=>l[0]?) hl;simpa using this
  have hi:i<ops.size:=by
   rcases Nat.lt_or_ge i ops.size with h'|h'
   ·exact h'
   rw[Array.getElem?_eq_none h'] at hoi;cases hoi
  have hl':ops.toList.drop (i+1)=r:=by
   rw[←List.tail_drop,hl];rfl
  obtain⟨V,hV,hk,hw⟩:=FxL.spec hf hgb r (i+1) (v::vs) (by omega) hl' (by simp[hv]) h2;have hVi:V i=v:=by
   rw[hV i (by omega)];simp[aG]
  have hVj:∀j,j<i→V j=aG vs (i - 1 - j):=fun j hj=>by
   rw[hV j (by omega),show i+1 - 1 - j=(i - 1 - j)+1 by omega];rfl
  refine⟨V,hVj,fun k o' hik ho'=>?_,hw⟩;rcases Nat.eq_or_lt_of_le hik with e|e
  ·subst e;rw[hoi] at ho';injection ho' with ho'
   subst ho';intro ev w hS e1 e2 e3 e4 e5;have hd:∀j,cE ops i j=true→j<i:=by
    intro j hj;unfold cE at hj;rw[hoi] at hj;simp only[Option.map_some,Option.getD_some] at hj;rw[Array.any_eq_true'] at hj;obtain⟨x,hx,hx2⟩:=hj;rw[Bool.and_eq_true,beq_iff_eq] at hx2;have:=dZ hf hoi hx hx2.1;omega
   have:=h1 ev w hS ⟨e1,e2,e3,fun j d m hm hj hdp=>by rw[e4 j d hj hdp,hVj j (hd j hdp),show i - 1 - j=m by omega],e5⟩;unfold kH;cases hgu:o.guard with
   |none=>rw[hgu] at this;simp only at this ⊢;rw[hVi];exact this
   |some jw=>
    obtain⟨j,want⟩:=jw;rw[hgu] at this;have hji:j<i:=by
     have:=List.all_eq_true.1 hgb i (by simpa using hi);rw[hoi] at this;simp only[Option.bind_some,hgu] at this;exact of_decide_eq_true this
    simp only at this ⊢;rw[hVi,hVj j hji];exact this
  exact hk k o' e ho'
def Da(ops:Array Oper):Nat→List Nat→List Nat
 |0,acc=>acc
 |k+1,acc=>Da ops k (match acc.any fun a=>cE ops a k with|true=>k::acc|false=>acc)
def dK(ops:Array Oper)(i:Nat):List Nat:=Da ops i [i]
theorem oC{ops:Array Oper}{L:Nat→Prop}(hC:Clo ops L):∀(k:Nat) (acc:List Nat),(∀a ∈ acc,L a)→∀a ∈ Da ops k acc,L a
 |0,acc,h,a,ha=>h a ha
 |k+1,acc,h,a,ha=>by
  unfold Da at ha;cases hb:acc.any fun a=>cE ops a k with
  |false=>rw[hb] at ha;exact oC hC k acc h a ha
  |true=>
   rw[hb] at ha;refine oC hC k (k::acc) (fun x hx=>?_) a ha;rcases List.mem_cons.1 hx with rfl|hx
   ·obtain⟨y,hy,hd⟩:=List.any_eq_true.1 hb;exact hC y x hd (h y hy)
   exact h x hx
theorem vX{ops:Array Oper}{L:Nat→Prop}(hC:Clo ops L){i k:Nat}(hk:(dK ops i).contains k=true)(hi:L i):L k:=
 oC hC i [i] (fun a ha=>by rw[List.mem_singleton.1 ha];exact hi) k (List.contains_iff_mem.1 hk)
theorem lA{ops:Array Oper}{L:Nat→Prop}(hC:Clo ops L){i k:Nat}(hd:∀j,cE ops i j=true→L j)(hk:(dK ops i).contains k=true):L k∨k=i:=by
 have hC':Clo ops (fun k=>L k∨k=i):=fun a b hab h=>by
  rcases h with h|h
  ·exact .inl (hC a b hab h)
  subst h;exact .inl (hd b hab)
 exact vX hC' hk (.inr rfl)
def tX(ops:Array Oper)(n:Nat):Bool:=(List.range ops.size).all fun k=>decide (k<n)||(List.range k).all fun j=>(dK ops k).contains j
theorem oD{ops:Array Oper}{n:Nat}(h:tX ops n=true){k j:Nat}(hk:k<ops.size)(hn:n≤k)(hj:j<k):(dK ops k).contains j=true:=by
 unfold tX at h;have h1:=List.all_eq_true.1 h k (by simpa using hk);rw[Bool.or_eq_true,decide_eq_true_iff] at h1;rcases h1 with h1|h1
 ·omega
 exact List.all_eq_true.1 h1 j (by simpa using hj)
theorem lT{ops:Array Oper}{listed:Array Bool}{i:Nat}(h:i ∈ Region.ready .any ops listed):∀j,cE ops i j=true→listed.getD j false=true:=by
 intro j hj;unfold cE at hj;cases ho:ops[i]? with
 |none=>rw[ho] at hj;cases hj
 |some o=>
  rw[ho] at hj;simp only[Option.map_some,Option.getD_some] at hj;rw[Array.any_eq_true'] at hj;obtain⟨e,he,h2⟩:=hj;rw[Bool.and_eq_true,beq_iff_eq] at h2;rw[←h2.2];exact(cD.1 h).2.2 o ho e he h2.1
theorem vY{ops:Array Oper}(hf:iD .any ops=true){i j:Nat}(h:cE ops i j=true):j<i:=by
 unfold cE at h;cases ho:ops[i]? with
 |none=>rw[ho] at h;cases h
 |some o=>
  rw[ho] at h;simp only[Option.map_some,Option.getD_some] at h;rw[Array.any_eq_true'] at h;obtain⟨e,he,h2⟩:=h;rw[Bool.and_eq_true,beq_iff_eq] at h2;rw[←h2.2];exact dZ hf ho he h2.1
theorem oE{P:Program}{ops:Array Oper}{Q:Exit→Act→World→Prop}{n:Nat}(hf:iD .any ops=true)(ht:tX ops n=true):
  ∀(t k:Nat) (listed:Array Bool) (a:Act) (w:World),n≤k→k+t=ops.size→listed.size=ops.size→(∀j,j<ops.size→listed.getD j false=decide (j<k))→wpOps P ops Q (List.range' k t) a w→wpAny P .any ops Q t listed a w
 |0,k,listed,a,w,hk,hs,hl,hv,h=>by
  refine⟨?_,h⟩;rw[List.eq_nil_iff_forall_not_mem];intro i hi;obtain⟨h1,h2,_⟩:=cD.1 hi;have:=hv i h1;rw[bC (by omega)] at h2 this;rw[h2] at this;simp at this;omega
 |t+1,k,listed,a,w,hk,hs,hl,hv,h=>by
  have hkr:∀i ∈ Region.ready .any ops listed,i=k:=by
   intro i hi;obtain⟨h1,h2,h3⟩:=cD.1 hi;have h4:=hv i h1;rw[bC (by omega)] at h2 h4;rw[h2] at h4;have h4:¬i<k:=by simpa using h4.symm
   rcases Nat.lt_or_ge k i with h5|h5
   ·have hC:Clo ops (fun j=>j<k):=fun a b hab ha=>by have:=vY hf hab;show b<k;have:a<k:=ha;omega
    have hd:∀j,cE ops i j=true→j<k:=fun j hj=>by
     have h6:=lT hi j hj;have h7:=vY hf hj;rw[hv j (by omega)] at h6;simpa using h6
    rcases lA hC hd (oD ht h1 (by omega) h5) with h6|h6
    ·exact absurd h6 (Nat.lt_irrefl _)
    omega
   omega
  refine⟨fun hr=>?_,fun i hi=>?_⟩
  ·exfalso;have:k ∈ Region.ready .any ops listed:=cD.2 ⟨by omega,by have:=hv k (by omega);rw[bC (by omega)] at this ⊢;rw[this];simp,fun o ho e he hb=>by
    have:=dZ hf ho he hb;rw[hv e.on (by omega)];simpa using this⟩
   rw[hr] at this;cases this
  obtain rfl:=hkr i hi;rw[List.range'_succ,wpOps_cons] at h;refine wpOp_mono (fun a' w' h'=>oE hf ht t (i+1) _ a' w' (by omega) (by omega) (by simpa using hl) (fun j hj=>?_) h') h;by_cases hji:j=i
  ·subst hji;rw[bC (by simp;omega)];simp
  have h5:=hv j hj;rw[bC (by omega)] at h5;rw[bC (by simp;omega),Array.getElem_setIfInBounds (by omega),if_neg (fun h=>hji h.symm),h5];rw[decide_eq_decide];omega
theorem lB{P:Program}{ops:Array Oper}{Q:Exit→Act→World→Prop}{n:Nat}(hn:n≤ops.size)(hf:iD .any ops=true)(ht:tX ops n=true)(hg:kK ops n=true):
  ∀(fuel:Nat) (front listed:Array Bool) (a:Act) (w:World),front.size=n→listed.size=ops.size→Clo ops (fun j=>listed.getD j false=true)→(∀j,j<ops.size→listed.getD j false=front.getD j false)→front.toList.count false=fuel→wpAny P .any (ops.extract 0 n) (mK P ops Q n (ops.size - n)) fuel front a w→wpAny P .any ops Q (fuel+(ops.size - n)) listed a w
 |fuel,front,listed,a,w,hs,hl,hcl,hv,hc,h=>by
  have hsz:(ops.extract 0 n).size=n:=by simp;omega
  have hgt:∀j,j<n→listed.getD j true=front.getD j true:=fun j hj=>by
   have:=hv j (by omega);rw[bC (by omega),bC (by omega)] at this;rw[bC (by omega),bC (by omega),this]
  have hrd:∀i,i ∈ Region.ready .any (ops.extract 0 n) front↔(i<n∧i ∈ Region.ready .any ops listed):=by
   exact Ft
  cases fuel with
  |zero=>
   have hall:∀j,j<n→front.getD j false=true:=by
    intro j hj;rw[bC (by omega)];cases hl':front[j]'(by omega) with
    |true=>rfl
    |false=>
     exfalso;have:false ∈ front.toList:=by rw[←hl'];simp
     have:=List.count_pos_iff.2 this;omega
   rw[Nat.zero_add];refine oE hf ht (ops.size - n) n listed a w (Nat.le_refl _) (by omega) hl (fun j hj=>?_) h.2;rw[hv j hj];by_cases hj':j<n
   ·rw[hall j hj',decide_eq_true hj']
   rw[decide_eq_false hj'];simp only[Array.getD];rw[dif_neg (by omega)]
  |succ fuel=>
   obtain⟨h0,h1⟩:=h;rw[show fuel+1+(ops.size - n)=(fuel+(ops.size - n))+1 by omega];have hne:∃j,j<n∧front.getD j false=false:=by
    exact Fs
   refine⟨fun hr=>?_,fun i hi=>?_⟩
   ·exfalso;have:∀j,j<n→front.getD j false=true:=by
     intro j;induction j using Nat.strongRecOn with
     |_ j ih=>
      intro hj;cases hq:front.getD j false with
      |true=>rfl
      |false=>
       exfalso;have:j ∈ Region.ready .any ops listed:=by
        refine cD.2 ⟨by omega,?_,fun o ho e he hb=>?_⟩
        ·rw[hgt j hj];rw[bC (by omega)] at hq ⊢;exact hq
        have h4:=dZ hf ho he hb;rw[hv e.on (by omega)];exact ih e.on h4 (by omega)
       rw[hr] at this;cases this
    obtain⟨j,hj,hq⟩:=hne;rw[this j hj] at hq;cases hq
   have hi2:=cD.1 hi;have hin:i<n:=by
    rcases Nat.lt_or_ge i n with h'|h'
    ·exact h'
    exfalso;obtain⟨j,hj,hq⟩:=hne;rcases lA hcl (lT hi) (oD ht hi2.1 h' (show j<i by omega)) with h6|h6
    ·rw[hv j (by omega),hq] at h6;cases h6
    omega
   refine nZ hin hn hg (fun a' w' h'=>?_) (h1 i ((hrd i).2 ⟨hin,hi⟩));refine lB hn hf ht hg fuel (front.setIfInBounds i true) (listed.setIfInBounds i true) a' w' (by simpa using hs) (by simpa using hl) ?_ (fun j hj=>?_) ?_ h'
   ·intro x y hxy hx;have hlt:=vY hf hxy;have key:∀z,z<listed.size→((listed.setIfInBounds i true).getD z false=true↔(listed.getD z false=true∨z=i)):=fun z hz=>by
     rw[bC (by simp;omega),bC hz,Array.getElem_setIfInBounds hz];by_cases e:i=z
     ·simp[e]
     rw[if_neg e];constructor
     ·exact .inl
     rintro(h|h)
     ·exact h
     exact absurd h.symm e
    have hxs:x<listed.size:=by
     rcases Nat.lt_or_ge x listed.size with h'|h'
     ·exact h'
     exfalso;have hx':(listed.setIfInBounds i true).getD x false=true:=hx;simp only[Array.getD,Array.size_setIfInBounds] at hx';rw[dif_neg (by omega)] at hx';cases hx'
    show(listed.setIfInBounds i true).getD y false=true;rw[key y (by omega)];rcases(key x hxs).1 hx with h'|h'
    ·exact .inl (hcl x y hxy h')
    subst h';exact .inl (lT hi y hxy)
   ·by_cases hjn:j<n
    ·rw[bC (by simp;omega),bC (by simp;omega),Array.getElem_setIfInBounds,Array.getElem_setIfInBounds];split
     ·rfl
     have:=hv j hj;rw[bC (by omega),bC (by omega)] at this;exact this
    have:=hv j hj;rw[bC (by omega)] at this;rw[bC (by simp;omega),Array.getElem_setIfInBounds (by omega),if_neg (by omega),this];simp only[Array.getD,Array.size_setIfInBounds];rw[dif_neg (by omega),dif_neg (by omega)]
   have h4:=nC front.toList i (by
    have h5:=hi2.2.1;rw[hgt i hin,bC (by omega)] at h5;simp[List.getD,show i<front.size by omega,h5])
   rw[Array.toList_setIfInBounds];omega
def bF:List (Option Tmp)→List Value→Act→Act
 |d::ds,v::vs,a=>(bF ds vs a).put d v
 |_,_,a=>a
theorem rU(ops:Array Oper)(V:Nat→Value)(a:Act):∀(n:Nat) (ws:List Value),ws.length=n→(∀j,j<n→V j=aG ws (n - 1 - j))→bA ops V n a=bF ((List.range n).map (bE ops)).reverse ws a
 |0,[],_,_=>rfl
 |n+1,v::ws,hl,hV=>by
  have hVn:V n=v:=by rw[hV n (by omega)];simp[aG]
  rw[List.range_succ,List.map_append,List.map_cons,List.map_nil,List.reverse_append,List.reverse_cons,List.reverse_nil,List.nil_append,List.singleton_append];show(bA ops V n a).put (bE ops n) (V n)=(bF _ ws a).put (bE ops n) v;rw[hVn,rU ops V a n ws (by simpa using hl) (fun j hj=>by rw[hV j (by omega),show n+1 - 1 - j=(n - 1 - j)+1 by omega];rfl)]
def fxB(ops:Array Oper)(n N:Nat):Bool:=
 let F:=(ops.toList.take n).toArray
 decide (n≤ops.size)&&(iD .any ops&&(tX ops n&&(kK ops n&&(nU F&&(iD .any F&&(yP F N&&(((List.range F.size).all fun i=>match (F[i]?).bind (·.guard) with|some (j,_)=>cE F i j&&(bE F j).isSome|none=>true)&&((List.range F.size).all fun i=>match (F[i]?).bind (·.guard) with|some (j,_)=>decide (j<i)|none=>true))))))))
theorem aM{P:Program}{ops:Array Oper}{Q:Exit→Act→World→Prop}(S:World→Prop){id:Nat}{a0:Act}{w:World}(n N:Nat)(dsts:List (Option Tmp))(hm:P.follows .mixedOrders=true)(hB:fxB ops n N=true)(hD:((List.range n).map (bE (ops.toList.take n).toArray)).reverse=dsts)(hN:N≤a0.tmps.size)(h0:S w.drew)
  (h:FxL P (ops.toList.take n).toArray S a0 (fun vs W=>wpList P ops Q (ops.toList.drop n) (bF dsts vs a0) W) (ops.toList.take n) 0 []):(Code.region id ops true).wp P Q a0 w:=by
 unfold fxB at hB;simp only[Bool.and_eq_true] at hB;obtain⟨b1,b2,b3,b4,b5,b6,b7,b8,b9⟩:=hB;have hn:n≤ops.size:=of_decide_eq_true b1;have hsz:(ops.toList.take n).toArray.size=n:=by simp;omega
 obtain⟨V,_,hk,ws,hws,hVw,hK⟩:=FxL.spec b6 b9 (ops.toList.take n) 0 [] (Nat.zero_le _) (by simp) rfl h;refine wp_region_any hm ?_;have h1:wpAny P .any (ops.extract 0 n) (mK P ops Q n (ops.size - n)) n (Array.replicate n false) a0 w.drew:=by
  rw[tT,tU];have:=yQ (P:=P) (md:=.any) rfl (ops:=(ops.toList.take n).toArray) (Q:=kL P ops Q n) (a0:=a0) (w:=w.drew) V S N b5 b6 b7 hN h0 b8 (fun i hi ev w hS e1 e2 e3 e4 e5 o ho=>hk i o (Nat.zero_le _) ho ev w hS e1 e2 e3 e4 e5) (fun W hW=>by
   rw[rU _ V a0 _ ws hws hVw,hsz,hD];exact hK W hW)
  rw[hsz] at this;exact this
 have h2:=lB hn b2 b3 b4 n (Array.replicate n false) (Array.replicate ops.size false) a0 w.drew (by simp) (by simp) (fun x y _ hx=>by
  exfalso;simp only[Array.getD] at hx;split at hx<;>simp at hx) (fun j hj=>by
  simp only[Array.getD];split<;>split<;>simp) (by simp[List.count_replicate]) h1
 rw[show n+(ops.size - n)=ops.size by omega] at h2;exact h2
section
variable {P:Program} {ops:Array Oper} {S C:World→Prop} {a0:Act} {K:List Value→World→Prop} {o:Oper} {r:List Oper} {i:Nat} {vs:List Value} {v u g:Value} {f:FuncId} {args:Array Value} {j:Nat} {want:Bool}
def oG(ops:Array Oper)(i:Nat)(l:List (Nat × Nat × Nat))(q:List Nat):Bool:=l.all (fun x=>x.2.1+x.1+1 == i&&(bE ops x.2.1 == some x.2.2&&cE ops i x.2.1))&&q.all (fC ops)
theorem FxL.p(l:List (Nat × Nat × Nat))(q:List Nat)(hr:FxL P ops S a0 K r (i+1) (v::vs))(hg:o.guard=none:=by rfl)(hE:oG ops i l q=true:=by kernel_rfl)
  (h:∀ev w,evT ev vs l (evU ev a0 q (evC ev))→(execOp ev o).run P w= .ok (.value v) w:=by(intro ev w E;simp only[evT,evU,evC,aG] at E;go_simp;try with_reducible rfl)):FxL P ops S a0 K (o::r) i vs:=
 FxL.pure hg (fun ev w _ E=>h ev w (E.get l q hE)) hr
theorem FxL.q(HF:∀w,S w→C w)(l:List (Nat × Nat × Nat))(q:List Nat)(hr:FxL P ops S a0 K r (i+1) (v::vs))(hg:o.guard=none:=by rfl)(hE:oG ops i l q=true:=by kernel_rfl)
  (h:∀ev w,C w→evT ev vs l (evU ev a0 q (evC ev))→(execOp ev o).run P w= .ok (.value v) w:=by(intro ev w hC E;(try dsimp only at hC);simp only[evT,evU,evC,aG] at E;go_simp;try with_reducible rfl)):FxL P ops S a0 K (o::r) i vs:=
 FxL.pure hg (fun ev w hS E=>h ev w (HF w hS) (E.get l q hE)) hr
theorem FxL.x(m:Nat)(l:List (Nat × Nat × Nat))(q:List Nat)(hr:FxL P ops S a0 K r (i+1) (gwV g want u::vs))(hg:o.guard=some (j,want):=by rfl)(hm:j+m+1=i:=by rfl)(hgv:aG vs m=g:=by(simp only[aG]<;>rfl))(hE:oG ops i l q=true:=by kernel_rfl)
  (h:g= .bool want→∀ev w,evT ev vs l (evU ev a0 q (evC ev))→(execOp ev o).run P w= .ok (.value u) w:=by(intro hg ev w E;simp only[evT,evU,evC,aG] at E;(try simp only[hg,bG] at E);go_simp;try with_reducible rfl)):FxL P ops S a0 K (o::r) i vs:=
 FxL.gw hg m hm hgv (fun hh ev w _ E=>h hh ev w (E.get l q hE)) hr
theorem FxL.xq(HF:∀w,S w→C w)(m:Nat)(l:List (Nat × Nat × Nat))(q:List Nat)(hr:FxL P ops S a0 K r (i+1) (gwV g want u::vs))(hg:o.guard=some (j,want):=by rfl)(hm:j+m+1=i:=by rfl)(hgv:aG vs m=g:=by(simp only[aG]<;>rfl))(hE:oG ops i l q=true:=by kernel_rfl)
  (h:g= .bool want→∀ev w,C w→evT ev vs l (evU ev a0 q (evC ev))→(execOp ev o).run P w= .ok (.value u) w:=by(intro hg ev w hC E;(try dsimp only at hC);simp only[evT,evU,evC,aG] at E;(try simp only[hg,bG] at E);go_simp;try with_reducible rfl)):FxL P ops S a0 K (o::r) i vs:=
 FxL.gw hg m hm hgv (fun hh ev w hS E=>h hh ev w (HF w hS) (E.get l q hE)) hr
theorem FxL.c(l:List (Nat × Nat × Nat))(q:List Nat)(hc:∀w,S w→Calls P f args w fun e w''=>e= .returned v∧Fr none w w'')(hr:FxL P ops S a0 K r (i+1) (v::vs))(hp:∀w w',S w→Fr none w w'→S w':=by(intro w w' hS F;exact hS.pure F))(hg:o.guard=none:=by rfl)(hE:oG ops i l q=true:=by kernel_rfl)
  (h:∀ev w,evT ev vs l (evU ev a0 q (evC ev))→(execOp ev o).run P w= .ok (.enter f args) w:=by(intro ev w E;simp only[evT,evU,evC,aG] at E;go_simp;try first|(refine And.intro ?_ ?_<;>with_reducible rfl)|with_reducible rfl|rfl|(refine And.intro ?_ ?_<;>rfl))):FxL P ops S a0 K (o::r) i vs:=
 FxL.call hg (fun ev w _ E=>h ev w (E.get l q hE)) (fun w hS=>(hc w hS).mono fun _ _ hh=>⟨hh.1,hp _ _ hS hh.2⟩) hr
end
end Go.Proofs.YthaggndnfamhjaaGreatDoor
