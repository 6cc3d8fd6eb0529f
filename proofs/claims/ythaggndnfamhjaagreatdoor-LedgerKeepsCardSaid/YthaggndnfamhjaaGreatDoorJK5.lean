/- Texts, joined. -/
import Derived.Test.YthaggndnfamhjaaGreatDoorJK4
import Derived.Laws.IdiomCopy
import Derived.Laws.OwnMore
import Derived.Lib.SliceRun
import Derived.Test.YthaggndnfamhjaaGreatDoorJB

set_option linter.unusedSimpArgs false
set_option linter.unusedVariables false
set_option maxRecDepth 100000
set_option maxHeartbeats 16000000
namespace Go.Proofs.YthaggndnfamhjaaGreatDoor
open Go.RowKit
def isO(id:Int)(o:Ofr):Bool:=decide (o.id=id)
def wth(o:Ofr)(most:Int):Int:=if bX o.num o.den=true then min 1000000000000 (most*o.den/o.num) else 0
def jI(g:Lgr)(o:Ofr):Int:=max 0 (min (min o.amt (fG g o.sel o.sg)) (wth o (iD g o.sel o.by_)))
def setO(g:Lgr)(k:Nat)(o:Ofr):Lgr:={g with offers:=g.offers.set k o}
def eU(g:Lgr)(k:Nat):Lgr:={g with offers:=g.offers.eraseIdx k}
structure dD where
 g:Lgr
 want:Int
 left:Int
def dP(d:dD)(o:Ofr):Int:=min (min d.want (jI d.g o)) (wth o d.left)
def jN(d:dD)(o:Ofr):Lgr:=(crd (dbt d.g o.sel o.sg (dP d o)).1 o.sel o.by_ (upN (dP d o) o.num o.den).1).1
def mQ(d:dD)(k:Nat)(o:Ofr):dD:=
 if 0<dP d o then⟨setO (jN d o) k {o with amt:=o.amt - dP d o},d.want - dP d o,d.left - (upN (dP d o) o.num o.den).1⟩ else d
def jZ(d:dD)(k:Nat)(o:Ofr):dD × Bool:=if 0<jI d.g o then(d,false) else(⟨eU d.g k,d.want,d.left⟩,true)
def gT(d:dD)(id:Int):dD × Bool:=match d.g.offers.findIdx? (isO id) with
 |none=>(d,false)
 |some k=>match d.g.offers[k]? with
  |none=>(d,false)
  |some o=>match (mQ d k o).g.offers[k]? with
   |none=>(mQ d k o,false)
   |some o'=>jZ (mQ d k o) k o'
theorem dE{n:Int}:aX n=true↔0≤n∧n≤1000000000000:=by unfold aX;exact decide_eq_true_iff
theorem gU{a b:Int}:bX a b=true↔1≤a∧a≤1000000∧1≤b∧b≤1000000:=by unfold bX;exact decide_eq_true_iff
theorem pS{o:Ofr}(h:cI o.num o.den=(o.num,o.den)∧o.num≠0):bX o.num o.den=true:=by
 obtain⟨h1,h2⟩:=h;cases e:bX o.num o.den with
 |true=>rfl
 |false=>
  unfold cI at h1;rw[if_neg (by rw[e];simp)] at h1;injection h1 with h1 _
  exact absurd h1.symm h2
theorem eC{g:Lgr}{o:Ofr}:jM g o=true↔(aK g.accs o.sel).isSome=true∧(1≤o.id∧o.id<g.nid)∧aV o.sg=true∧aV o.by_=true∧o.sg≠o.by_∧1≤o.amt∧o.amt≤1000000000000∧cI o.num o.den=(o.num,o.den)∧o.num≠0:=by
 unfold jM;simp only[Bool.and_eq_true,decide_eq_true_eq,dE];constructor
 ·rintro⟨a,b,c,d,e,f,g,h⟩;exact⟨a,b,c,d,e,f,g.2,h⟩
 rintro⟨a,b,c,d,e,f,g,h⟩;exact⟨a,b,c,d,e,f,⟨by omega,g⟩,h⟩
theorem yR{n most:Int}{o:Ofr}(hp:bX o.num o.den=true)(h0:0<n)(hn:n≤1000000000000)(hm:0≤most)(hm2:most≤1000000000000)(hw:n≤wth o most):upN n o.num o.den=((n*o.num+(o.den - 1))/o.den,0)∧0≤(n*o.num+(o.den - 1))/o.den∧(n*o.num+(o.den - 1))/o.den≤most:=by
 obtain⟨p1,p2,p3,p4⟩:=gU.1 hp;unfold wth at hw;rw[if_pos hp] at hw;have h1:n≤most*o.den/o.num:=by omega
 have h2:n*o.num≤most*o.den:=(Int.le_ediv_iff_mul_le (by omega)).1 h1;have h3:0≤n*o.num:=Int.mul_nonneg (by omega) (by omega);have h4:0≤(n*o.num+(o.den - 1))/o.den:=Int.ediv_nonneg (by omega) (by omega);have h5:(n*o.num+(o.den - 1))/o.den≤most:=by
  refine Int.lt_add_one_iff.1 ((Int.ediv_lt_iff_lt_mul (by omega)).2 ?_);rw[Int.add_mul,Int.one_mul];omega
 refine⟨?_,h4,h5⟩;unfold upN An lB;rw[if_pos ⟨dE.2 ⟨by omega,hn⟩,hp⟩,if_pos];simp only[List.nil_append,List.all_cons,List.all_nil,Bool.and_true];exact dE.2 ⟨h4,by omega⟩
theorem Ek{o:Ofr}{most:Int}(h:0<wth o most):0<most:=by
 unfold wth at h;split at h
 ·rename_i hp;obtain⟨p1,p2,p3,p4⟩:=gU.1 hp;apply Classical.byContradiction;intro hm;have h1:most*o.den≤0:=by
   have:=Int.mul_le_mul_of_nonneg_right (show most≤0 by omega) (show 0≤o.den by omega)
   rwa [Int.zero_mul] at this
  have h2:most*o.den/o.num≤0:=by
   have:=Int.ediv_le_ediv (show 0<o.num by omega) h1;simpa using this
  omega
 omega
theorem mB{g:Lgr}(h:aH g=0):bW g.lines g.accs=0:=(aS.1 h).1
theorem rN{g:Lgr}{acc:Int}{a:Ast}(h:(bN g acc a).2=false):(bN g acc a).1=(0,0):=by
 revert h;unfold bN;cases aK g.accs acc with
 |none=>exact fun _=>rfl
 |some x=>
  cases bS g.lines acc a with
  |none=>
   dsimp only
   repeat' split
   all_goals(intro h;first|rfl|cases h)
  |some l=>
   dsimp only
   repeat' split
   all_goals(intro h;first|rfl|cases h)
theorem xQ{d:dD}{o:Ofr}(hg:aH d.g=0)(hw:d.want≤1000000000000)(hl:0≤d.left∧d.left≤1000000000000)(ho:jM d.g o=true)(hn:0<dP d o):
  (dbt d.g o.sel o.sg (dP d o)).2=0∧aH (dbt d.g o.sel o.sg (dP d o)).1=0∧(crd (dbt d.g o.sel o.sg (dP d o)).1 o.sel o.by_ (upN (dP d o) o.num o.den).1).2=0∧aH (jN d o)=0∧jN d o=dN (dN d.g o.sel o.sg (-(dP d o))) o.sel o.by_ (upN (dP d o) o.num o.den).1∧dP d o≤o.amt∧dP d o≤d.want∧0≤(upN (dP d o) o.num o.den).1∧(upN (dP d o) o.num o.den).1≤d.left:=by
 obtain⟨o1,o2,o3,o4,o5,o6,o7,o8⟩:=eC.1 ho;have hp:=pS o8;have hc:=mB hg;generalize hN:dP d o=n at*
 have hN0:=hN;unfold dP jI at hN;rw[gS,if_neg (by omega)] at hN;unfold iD at hN;rw[if_neg (by omega)] at hN;have n1:n≤(bN d.g o.sel o.sg).1.1:=by omega
 have n2:n≤wth o (bN d.g o.sel o.by_).1.2:=by omega
 have n3:n≤wth o d.left:=by omega
 have n4:n≤o.amt:=by omega
 have n5:n≤d.want:=by omega
 clear hN;have r1:=rK hc (acc:=o.sel) (a:=o.by_);obtain⟨c1,c2,c3⟩:=yR hp hn (by omega) hl.1 hl.2 n3;obtain⟨_,_,c4⟩:=yR hp hn (by omega) r1.2.1 r1.2.2.2 n2;rw[c1];simp only;generalize(n*o.num+(o.den - 1))/o.den=c at*
 have k1:ckT d.g o.sel o.sg n=0:=by
  unfold ckT;rw[if_neg (by omega),if_neg (by rw[o3];simp),if_neg (by rw[o1];simp),if_neg (by rw[dE.2 ⟨by omega,by omega⟩];simp)]
 have k2:(bN d.g o.sel o.sg).2=true:=by
  cases e:(bN d.g o.sel o.sg).2 with
  |true=>rfl
  |false=>rw[rN e] at n1;simp only at n1;omega
 have k3:dbt d.g o.sel o.sg n=(dN d.g o.sel o.sg (-n),0):=by
  unfold dbt;rw[if_neg (by omega),if_neg (by rw[k2];simp),if_neg (by omega)]
 have k4:=tJ hg (show(dbt d.g o.sel o.sg n).2=0 by rw[k3]);rw[k3] at k4;have k5:bN (dN d.g o.sel o.sg (-n)) o.sel o.by_=bN d.g o.sel o.by_:=xP (fun e=>o5 e.symm);have k6:(aK (dN d.g o.sel o.sg (-n)).accs o.sel).isSome=true:=by
  have:=(eH d.g o.sel o.sg (-n)).2.2.2.2.2.1;have:=congrArg (List.map Prod.fst) this;simp only[List.map_map] at this;rw[gQ] at o1 ⊢;have e:∀l:List aQ,l.map (Prod.fst ∘ fun x=>(x.id,x.seq))=l.map (·.id):=fun l=>rfl;rw[e,e] at this
  rwa [this]
 have k7:ckT (dN d.g o.sel o.sg (-n)) o.sel o.by_ c=0:=by
  unfold ckT;rw[if_neg (by have:=mB k4;simp only at this;omega),if_neg (by rw[o4];simp),if_neg (by rw[k6];simp),if_neg (by rw[dE.2 ⟨by omega,by omega⟩];simp)]
 have k8:(bN d.g o.sel o.by_).2=true:=by
  cases e:(bN d.g o.sel o.by_).2 with
  |true=>rfl
  |false=>
   rw[rN e] at n2;have:=Ek (show 0<wth o 0 by simp only at n2;omega);omega
 have k9:crd (dN d.g o.sel o.sg (-n)) o.sel o.by_ c=(dN (dN d.g o.sel o.sg (-n)) o.sel o.by_ c,0):=by
  unfold crd;rw[k5,if_neg (by omega),if_neg (by rw[k8];simp),if_neg (by omega)]
 have k10:=yQ k4 (show(crd (dN d.g o.sel o.sg (-n)) o.sel o.by_ c).2=0 by rw[k9]);rw[k9] at k10;have k11:jN d o=dN (dN d.g o.sel o.sg (-n)) o.sel o.by_ c:=by
  unfold jN;rw[hN0,k3,c1];simp only;rw[k9]
 exact⟨by rw[k3],by rw[k3];exact k4,by rw[k3];simp only;rw[k9],by rw[k11];exact k10,k11,n4,n5,c2,c3⟩
theorem BZ{g:Lgr}{k:Nat}{o:Ofr}(hg:aH g=0)(hk:k<g.offers.length)(hi:o.id=g.offers[k].id)(ho:jM g o=true):aH (setO g k o)=0:=by
 obtain⟨g1,g2,g3,g4,g5⟩:=aS.1 hg;refine aS.2 ⟨g1,by show(g.offers.set k o).length≤40;simpa using g2,g3,fun x hx=>?_,pP (h:=fun x:Ofr=>x.id) (r:=fun a b=>a<b) (jC (fun x:Ofr=>x.id) _ k hk o hi) g5⟩;rcases List.mem_or_eq_of_mem_set hx with hx|rfl
 ·exact g4 x hx
 exact ho
theorem vP{g:Lgr}{k:Nat}(hg:aH g=0):aH (eU g k)=0:=by
 obtain⟨g1,g2,g3,g4,g5⟩:=aS.1 hg;refine aS.2 ⟨g1,?_,g3,fun x hx=>g4 x (List.mem_of_mem_eraseIdx hx),g5.sublist (List.eraseIdx_sublist _ _)⟩;show(g.offers.eraseIdx k).length≤40;have:=(List.eraseIdx_sublist g.offers k).length_le;omega
theorem rO{α:Type}(l:List α)(k:Nat)(y:α):(l.set k y).eraseIdx k=l.eraseIdx k:=by
 induction l generalizing k with
 |nil=>rfl
 |cons x r ih=>
  cases k with
  |zero=>rfl
  |succ k=>simp[ih]
theorem El(g:Lgr)(o:Ofr):jI g o≤max 0 o.amt:=by unfold jI;omega
def eV(d:dD):Prop:=aH d.g=0∧(0≤d.want∧d.want≤1000000000000)∧0≤d.left∧d.left≤1000000000000
def gA(g h:Lgr):Prop:=h.num=g.num∧h.nid=g.nid∧h.fees=g.fees∧h.link=g.link∧h.accs.map (fun x=>(x.id,x.seq))=g.accs.map (fun x=>(x.id,x.seq))∧h.lines.map (fun x=>(x.acc,x.ast,x.lim))=g.lines.map (fun x=>(x.acc,x.ast,x.lim))
theorem gA.refl(g:Lgr):gA g g:=⟨rfl,rfl,rfl,rfl,rfl,rfl⟩
theorem gA.trans{a b c:Lgr}(h:gA a b)(k:gA b c):gA a c:=⟨k.1.trans h.1,k.2.1.trans h.2.1,k.2.2.1.trans h.2.2.1,k.2.2.2.1.trans h.2.2.2.1,k.2.2.2.2.1.trans h.2.2.2.2.1,k.2.2.2.2.2.trans h.2.2.2.2.2⟩
theorem kP(g:Lgr)(acc:Int)(a:Ast)(m:Int):gA g (dN g acc a m):=by
 obtain⟨h1,h2,h3,h4,h5,h6,h7⟩:=eH g acc a m;exact⟨h3,h2,h4,h5,h6,h7⟩
theorem Au{d:dD}{k:Nat}{o:Ofr}(hd:eV d)(hk:d.g.offers[k]?=some o):∃(G:Lgr) (m wt lf:Int),mQ d k o=⟨setO G k {o with amt:=m},wt,lf⟩∧aH G=0∧G.offers=d.g.offers∧gA d.g G∧0≤m∧m≤o.amt∧(0≤wt∧wt≤d.want)∧0≤lf∧lf≤d.left:=by
 obtain⟨h1,h2,h3⟩:=hd;obtain⟨hkl,hko⟩:=List.getElem?_eq_some_iff.1 hk;have ho:=(aS.1 h1).2.2.2.1 o (hko▸List.getElem_mem hkl);unfold mQ;split
 ·rename_i hn;obtain⟨_,_,_,u4,u5,u6,u7,u8,u9⟩:=xQ h1 h2.2 h3 ho hn;refine⟨_,_,_,_,rfl,u4,?_,?_,by omega,by omega,by omega,by omega,by omega⟩
  ·rw[u5,(eH _ _ _ _).1,(eH _ _ _ _).1]
  rw[u5];exact(kP _ _ _ _).trans (kP _ _ _ _)
 have e:setO d.g k {o with amt:=o.amt}=d.g:=by
  obtain⟨⟩:=d;unfold setO;simp only at hko ⊢;rw[show({o with amt:=o.amt}:Ofr)=o from rfl,←hko,List.set_getElem_self]
 have:=(eC.1 ho).2.2.2.2.2.1;refine⟨d.g,o.amt,d.want,d.left,?_,h1,rfl,gA.refl _,by omega,by omega,by omega,by omega⟩;rw[e]
theorem Em{G:Lgr}{k:Nat}{o:Ofr}{m wt lf:Int}(hG:aH G=0)(hk:G.offers[k]?=some o)(hm:0≤m∧m≤o.amt)(hw:0≤wt∧wt≤1000000000000)(hl:0≤lf∧lf≤1000000000000):eV (jZ ⟨setO G k {o with amt:=m},wt,lf⟩ k {o with amt:=m}).1:=by
 obtain⟨hkl,hko⟩:=List.getElem?_eq_some_iff.1 hk;have ho:=(aS.1 hG).2.2.2.1 o (hko▸List.getElem_mem hkl);obtain⟨o1,o2,o3,o4,o5,o6,o7,o8⟩:=eC.1 ho;unfold jZ;split
 ·rename_i ha;have:=El (setO G k {o with amt:=m}) {o with amt:=m};simp only at this ha;refine⟨BZ hG hkl (by rw[hko]) (eC.2 ⟨o1,o2,o3,o4,o5,by simp only;omega,by simp only;omega,o8⟩),hw,hl⟩
 refine⟨?_,hw,hl⟩;have e:eU (setO G k {o with amt:=m}) k=eU G k:=by
  unfold eU setO;simp only[rO]
 show aH (eU (setO G k {o with amt:=m}) k)=0;rw[e];exact vP hG
theorem En{l:List Ofr}{id:Int}(h:id ∈ l.map (·.id)):∃k,∃hk:k<l.length,l.findIdx? (isO id)=some k∧l[k].id=id:=by
 cases e:l.findIdx? (isO id) with
 |none=>
  obtain⟨x,hx,hi⟩:=List.mem_map.1 h;have:=List.findIdx?_eq_none_iff.1 e x hx;unfold isO at this;simp[hi] at this
 |some k=>
  obtain⟨hk,h1,_⟩:=List.findIdx?_eq_some_iff_getElem.1 e;exact⟨k,hk,rfl,by unfold isO at h1;simpa using h1⟩
theorem gE{d:dD}{id:Int}(hd:eV d)(hi:id ∈ d.g.offers.map (·.id)):∃k o G m wt lf,d.g.offers.findIdx? (isO id)=some k∧d.g.offers[k]?=some o∧o.id=id∧mQ d k o=⟨setO G k {o with amt:=m},wt,lf⟩∧aH G=0∧G.offers=d.g.offers∧gA d.g G∧gT d id=jZ ⟨setO G k {o with amt:=m},wt,lf⟩ k {o with amt:=m}∧eV (gT d id).1:=by
 obtain⟨k,hk,h1,h2⟩:=En hi;have h3:d.g.offers[k]?=some d.g.offers[k]:=List.getElem?_eq_getElem hk;obtain⟨G,m,wt,lf,u1,u2,u3,u4,u5,u6,u7,u8,u9⟩:=Au hd h3;have e:gT d id=jZ ⟨setO G k {d.g.offers[k] with amt:=m},wt,lf⟩ k {d.g.offers[k] with amt:=m}:=by
  unfold gT;simp only[h1,h3,u1];have:(setO G k {d.g.offers[k] with amt:=m}).offers[k]?=some {d.g.offers[k] with amt:=m}:=by
   unfold setO;simp only;rw[List.getElem?_set_self (by rw[u3];exact hk)]
  rw[this]
 obtain⟨_,d2,d3⟩:=hd;exact⟨k,_,G,m,wt,lf,h1,h3,h2,u1,u2,u3,u4,e,by rw[e];exact Em u2 (by rw[u3];exact h3) ⟨u5,u6⟩ ⟨u7.1,by omega⟩ ⟨u8,by omega⟩⟩
theorem mR{d:dD}{id:Int}(hd:eV d)(hi:id ∈ d.g.offers.map (·.id)):gA d.g (gT d id).1.g∧∀i ∈ d.g.offers.map (·.id),i≠id→i ∈ (gT d id).1.g.offers.map (·.id):=by
 obtain⟨k,o,G,m,wt,lf,h1,h2,h3,h4,h5,h6,h7,h8,h9⟩:=gE hd hi;obtain⟨hkl,hko⟩:=List.getElem?_eq_some_iff.1 h2;rw[h8];have e1:(setO G k {o with amt:=m}).offers.map (·.id)=d.g.offers.map (·.id):=by
  show(G.offers.set k {o with amt:=m}).map (·.id)=_;rw[h6];exact jC (fun x:Ofr=>x.id) _ k hkl _ (by rw[hko])
 have e2:eU (setO G k {o with amt:=m}) k=eU G k:=by
  unfold eU setO;simp only[rO]
 unfold jZ;split
 ·exact⟨h7,fun i hi _=>by show i ∈ (setO G k {o with amt:=m}).offers.map (·.id);rw[e1];exact hi⟩
 refine⟨?_,fun i hi hne=>?_⟩
 ·show gA d.g (eU (setO G k {o with amt:=m}) k);rw[e2];exact h7
 show i ∈ (eU (setO G k {o with amt:=m}) k).offers.map (·.id);rw[e2];show i ∈ (G.offers.eraseIdx k).map (·.id);rw[h6];obtain⟨x,hx,rfl⟩:=List.mem_map.1 hi;refine List.mem_map.2 ⟨x,?_,rfl⟩;rw[List.mem_eraseIdx_iff_getElem];obtain⟨j,hj,rfl⟩:=List.getElem_of_mem hx;refine⟨j,hj,fun e=>?_,rfl⟩;subst e;rw[hko,h3] at hne;exact hne rfl
def jD(taker:Int):List Ofr→dD→dD
 |[],d=>d
 |o::r,d=>if o.sel=taker then jD taker r d else if(gT d o.id).2=true then jD taker r (gT d o.id).1 else(gT d o.id).1
theorem tK(taker:Int):∀(l:List Ofr) (d:dD),eV d→(l.map (·.id)).Nodup→(∀o ∈ l,o.id ∈ d.g.offers.map (·.id))→eV (jD taker l d)∧gA d.g (jD taker l d).g
 |[],d,h,_,_=>⟨h,gA.refl _⟩
 |o::r,d,h,hn,hi=>by
  obtain⟨hn1,hn2⟩:=List.nodup_cons.1 hn;unfold jD;split
  ·exact tK taker r d h hn2 (fun x hx=>hi x (List.mem_cons_of_mem _ hx))
  have ho:=hi o (List.mem_cons_self ..);obtain⟨k1,k2⟩:=mR h ho;obtain⟨k,o',G,m,wt,lf,c1,c2,c3,c4,c5,c6,c7,c8,c9⟩:=gE h ho;split
  ·have:=tK taker r (gT d o.id).1 c9 hn2 (fun x hx=>k2 _ (hi x (List.mem_cons_of_mem _ hx)) (fun e=>hn1 (List.mem_map.2 ⟨x,hx,e⟩)));exact⟨this.1,k1.trans this.2⟩
  exact⟨c9,k1⟩
theorem kE{w:World}{base:Nat}{e:TypeId}{size b n c:Nat}{xs:List Value}(h:w.ownsRow base e size (.slice (some ⟨b,0,none⟩) n c) n xs)(k:Nat)(hk:k≤n):w.ownsRow base e size (.slice (some ⟨b,0,none⟩) k c) k (xs.take (k*size)):=by
 obtain⟨hl,h2⟩:=h;have hks:k*size≤n*size:=Nat.mul_le_mul_right _ hk;refine⟨by rw[List.length_take];omega,.inr ?_⟩;rcases h2 with⟨h,_⟩|⟨g,cap,cur,e1,hg,hh,hnc,hm,hs,ht⟩
 ·cases h
 injection e1 with e1 _ e3
 injection e1 with e1
 injection e1 with e1
 subst e1 e3;refine⟨b,c,cur,rfl,hg,hh,by omega,hm,hs,?_⟩;rw[←ht,List.take_take];congr 1;omega
theorem wB{g:Nat}{t:TypeId}{fz:Nat × Nat}:∀(vs P Q R:List Value) (w:World),w.heap[g]?=some (.cells (P++Q++R).toArray t fz)→Q.length=vs.length→(w.setCells g P.length vs).heap[g]?=some (.cells (P++vs++R).toArray t fz)
 |[],P,Q,R,w,h,hq=>by
  obtain rfl:=List.eq_nil_of_length_eq_zero hq;exact h
 |v::r,P,Q,R,w,h,hq=>by
  cases Q with
  |nil=>cases hq
  |cons q Q=>
   have h1:=aI h P.length v;have e:(P++q::Q++R).toArray.setIfInBounds P.length v=((P++[v])++Q++R).toArray:=by
    simp
   rw[e] at h1;have:=wB r (P++[v]) Q R (w.setCell ⟨g,P.length,none⟩ v) h1 (by simpa using hq);rw[List.length_append,List.length_singleton] at this;rw[World.setCells,this];simp
theorem Fr.sets{g:Nat}:∀(vs:List Value) (o:Nat) (w:World),Fr (some g) w (w.setCells g o vs)
 |[],_,w=>Fr.refl _ _
 |v::r,o,w=>(Fr.set1 w ⟨g,o,none⟩ v).same (Fr.sets r (o+1) _)
theorem eE{P:Program}(w:World)(dT sT ty elem:TypeId)(k b o dLen dCap:Nat)(a:Addr)(sLen sCap:Nat)(cs:List Value)
  (hu:P.underlying dT=some (.slice elem)) (hs:(P.info? elem).map (·.size)=some k) (hn:cs.length=Nat.min sLen dLen*k)
  (hsrc:∀j v,cs[j]?=some v→w.cell? (a.add j)=some v) (hc:∀j,j<cs.length→(w.cell? ⟨b,o+j,none⟩).isSome=true) (hf:∀j,j<cs.length→w.frozen? ⟨b,o+j,none⟩=false) (h1:∀v ∈ cs,v.oneCell'=true):
  (Builtin.copy_ #[dT,sT] ty #[.slice (some ⟨b,o,none⟩) dLen dCap,.slice (some a) sLen sCap]).run P w= .ok (goInt (Nat.min sLen dLen)) (w.setCells b o cs):=by
 have hl:=run_loadCells_list (P:=P) w a cs hsrc;have hst:=run_storeCells_cells (P:=P) b o cs 0 w (by simpa using hc) (by simpa using hf) h1;cases hq:P.info? elem with
 |none=>simp[hq] at hs
 |some i=>
  have hi:i.size=k:=by simpa[hq] using hs
  simp[Builtin.copy_,run_underlying hu,Builtin.lenOf,Builtin.firstCells,sizeOf,typeInfo,hq,hi,←hn,hl,hst]
theorem iE{P:Program}(w:World)(t e ty:TypeId)(z:Value)(ht:P.underlying t=some (.slice e))(hv:∀w,(zeroValue e).run P w= .ok z w)(h1:∀v ∈ z.cells.toList,v.oneCell'=true)(b o c:Nat)
  (hc:∀j,j<z.cells.size→(w.cell? ⟨b,o+j,none⟩).isSome=true) (hf:∀j,j<z.cells.size→w.frozen? ⟨b,o+j,none⟩=false):
  (Builtin.clear_ #[t] ty #[.slice (some ⟨b,o,none⟩) 1 c]).run P w= .ok (.tuple #[]) (w.setCells b o z.cells.toList):=by
 have hzc:(Builtin.zeroCells z.cells 1).toList=z.cells.toList:=by
  unfold Builtin.zeroCells;rw[Nat.one_mul];apply List.ext_getElem
  ·simp
  intro i h1 h2;have h3:i<z.cells.size:=by simpa using h2
  simp[Nat.mod_eq_of_lt h3,getElem!_pos,h3]
 have hst:=run_storeCells_cells (P:=P) b o z.cells.toList 0 w (by simpa using hc) (by simpa using hf) h1;simp only[Nat.add_zero] at hst;simp[Builtin.clear_,run_underlying ht,hv,hzc,hst]
theorem dF{w:World}{base:Nat}{e:TypeId}{size b n c:Nat}{xs:List Value}(h:w.ownsRow base e size (.slice (some ⟨b,0,none⟩) n c) n xs)(i:Nat)(hi:i<c*size):(w.cell? ⟨b,i,none⟩).isSome=true:=by
 obtain⟨hl,h2⟩:=h;rcases h2 with⟨h,_⟩|⟨g,cap,cur,e1,hg,hh,hnc,hm,hs,ht⟩
 ·cases h
 injection e1 with e1 _ e3
 injection e1 with e1
 injection e1 with e1
 subst e1 e3;rw[aA hh,Array.getElem?_eq_getElem (by omega)];rfl
theorem sA{w:World}{base:Nat}{e:TypeId}{size b n c:Nat}{xs:List Value}(h:w.ownsRow base e size (.slice (some ⟨b,0,none⟩) n c) n xs):w.shape? b=some (e,c*size):=by
 obtain⟨hl,h2⟩:=h;rcases h2 with⟨h,_⟩|⟨g,cap,cur,e1,hg,hh,hnc,hm,hs,ht⟩
 ·cases h
 injection e1 with e1 _ e3
 injection e1 with e1
 injection e1 with e1
 subst e1 e3;unfold World.shape?;rw[hh];simp[hs]
theorem Ew{w:World}{base:Nat}{e:TypeId}{size b n c:Nat}{xs:List Value}(h:w.ownsRow base e size (.slice (some ⟨b,0,none⟩) n c) n xs)(i:Nat)(hi:n*size≤i)(u:Value):(w.setCell ⟨b,i,none⟩ u).ownsRow base e size (.slice (some ⟨b,0,none⟩) n c) n xs:=by
 have:=jU h i u
 rwa [List.set_eq_of_length_le (by rw[h.1];exact hi)] at this
theorem iV{base:Nat}{e:TypeId}{size b n c:Nat}{xs:List Value}:∀(vs:List Value) (i:Nat) (w:World) (_:w.ownsRow base e size (.slice (some ⟨b,0,none⟩) n c) n xs) (_:n*size≤i),(w.setCells b i vs).ownsRow base e size (.slice (some ⟨b,0,none⟩) n c) n xs
 |[],_,_,h,_=>h
 |v::r,i,w,h,hi=>iV r (i+1) _ (Ew h i hi v) (by omega)
theorem kU{α:Type}(R:Rec α)(l:List α)(k:Nat):(flR R l).take (k*R.sz)++(flR R l).drop ((k+1)*R.sz)=flR R (l.eraseIdx k):=by
 rw[gH,List.eraseIdx_eq_take_drop_succ,fW];congr 1;have h:=gH R l (k+1);have h2:flR R l=flR R (l.take (k+1))++flR R (l.drop (k+1)):=by rw[←fW,List.take_append_drop]
 rw[←h] at h2;have h3:=List.take_append_drop ((k+1)*R.sz) (flR R l);exact List.append_cancel_left (h3.trans h2)
theorem gZ{w:World}{base:Nat}{e:TypeId}{size b n c:Nat}{P Q R vs:List Value}(o:Nat)(h:w.ownsRow base e size (.slice (some ⟨b,0,none⟩) n c) n (P++Q++R))(ho:o=P.length)(hq:Q.length=vs.length):(w.setCells b o vs).ownsRow base e size (.slice (some ⟨b,0,none⟩) n c) n (P++vs++R):=by
 subst ho;obtain⟨hl,h2⟩:=h;refine⟨by simpa[hq] using hl,.inr ?_⟩;rcases h2 with⟨h,_⟩|⟨g,cap,cur,e1,hg,hh,hnc,hm,hs,ht⟩
 ·cases h
 injection e1 with e1 _ e3
 injection e1 with e1
 injection e1 with e1
 subst e1 e3;have hc:cur=(P++Q++(R++cur.toList.drop (n*size))).toArray:=by
  apply Array.toList_inj.1;have:=List.take_append_drop (n*size) cur.toList;rw[ht] at this;rw[List.toList_toArray,←List.append_assoc];exact this.symm
 rw[hc] at hh;have hb:=wB vs P Q (R++cur.toList.drop (n*size)) w hh hq;refine⟨b,c,_,rfl,hg,hb,hnc,hm,?_,?_⟩
 ·rw[hc] at hs;simp only[List.size_toArray,List.length_append] at hs ⊢;omega
 simp only[←List.append_assoc];rw[List.take_left' (by simp only[List.length_append] at hl ⊢;omega)]
theorem sB{w:World}{base:Nat}{e:TypeId}{size b n c:Nat}{xs:List Value}(h:w.ownsRow base e size (.slice (some ⟨b,0,none⟩) n c) n xs)(hn:n+1≤c):∃ys:List Value,ys.length=size∧w.ownsRow base e size (.slice (some ⟨b,0,none⟩) (n+1) c) (n+1) (xs++ys):=by
 obtain⟨hl,h2⟩:=h;rcases h2 with⟨h,_⟩|⟨g,cap,cur,e1,hg,hh,hnc,hm,hs,ht⟩
 ·cases h
 injection e1 with e1 _ e3
 injection e1 with e1
 injection e1 with e1
 subst e1 e3;have h1:(n+1)*size≤c*size:=Nat.mul_le_mul_right _ hn;have h2:(n+1)*size=n*size+size:=Nat.succ_mul n size;refine⟨(cur.toList.drop (n*size)).take size,by rw[List.length_take,List.length_drop,Array.length_toList];omega,⟨by rw[List.length_append,hl,List.length_take,List.length_drop,Array.length_toList];omega,.inr ⟨b,c,cur,rfl,hg,hh,hn,hm,hs,?_⟩⟩⟩;rw[h2,List.take_add,ht]
theorem yY{w:World}{base:Nat}{e:TypeId}{size b n c i:Nat}{xs ys v:List Value}(h:w.ownsRow base e size (.slice (some ⟨b,0,none⟩) (n+1) c) (n+1) (xs++ys))(hx:xs.length=n*size)(hy:ys.length=size)(hi:i≤n):
  (w.setCells b ((i+1)*size) (xs.drop (i*size))).ownsRow base e size (.slice (some ⟨b,0,none⟩) (n+1) c) (n+1) ((xs++ys).take (i*size)++((xs++ys).drop (i*size)).take size++xs.drop (i*size)):=by
 have h1:i*size≤n*size:=Nat.mul_le_mul_right _ hi;have h2:(i+1)*size=i*size+size:=Nat.succ_mul i size;have h3:(n+1)*size=n*size+size:=Nat.succ_mul n size;have e:xs++ys=(xs++ys).take ((i+1)*size)++(xs++ys).drop ((i+1)*size)++[]:=by rw[List.append_nil,List.take_append_drop]
 rw[e] at h;have:=gZ (vs:=xs.drop (i*size)) ((i+1)*size) h (by rw[List.length_take,List.length_append];omega) (by rw[List.length_drop,List.length_drop,List.length_append];omega);rw[h2]
 rwa [List.append_nil,h2,List.take_add] at this
end Go.Proofs.YthaggndnfamhjaaGreatDoor
