/- Texts, joined. -/
import Derived.Test.YthaggndnfamhjaaGreatDoorJK27
import Derived.Test.YthaggndnfamhjaaGreatDoorProg
import Derived.Test.YthaggndnfamhjaaGreatDoorJK28
import Derived.Test.YthaggndnfamhjaaGreatDoorJK18
import Derived.Test.YthaggndnfamhjaaGreatDoorJA

set_option linter.unusedSimpArgs false
set_option linter.unusedVariables false
set_option maxRecDepth 100000
set_option maxHeartbeats 16000000
namespace Go.Proofs.YthaggndnfamhjaaGreatDoor
open Go.RowKit
theorem kV{α:Type}(f:α→Int):∀(l:List α) (k:Nat) (hk:k<l.length) (y:α),((l.set k y).map f).sum=(l.map f).sum+f y - f l[k]
 |[],k,hk,y=>by simp at hk
 |x::r,0,hk,y=>by simp only[List.set_cons_zero,List.map_cons,List.sum_cons,List.getElem_cons_zero];omega
 |x::r,k+1,hk,y=>by
  have:=kV f r k (by simpa using hk) y;simp only[List.set_cons_succ,List.map_cons,List.sum_cons,List.getElem_cons_succ];omega
theorem sF{α:Type}(f:α→Int):∀(l:List α) (k:Nat) (hk:k<l.length),((l.eraseIdx k).map f).sum=(l.map f).sum - f l[k]
 |[],k,hk=>by simp at hk
 |x::r,0,hk=>by simp only[List.eraseIdx_cons_zero,List.map_cons,List.sum_cons,List.getElem_cons_zero];omega
 |x::r,k+1,hk=>by
  have:=sF f r k (by simpa using hk);simp only[List.eraseIdx_cons_succ,List.map_cons,List.sum_cons,List.getElem_cons_succ];omega
theorem zA{α:Type}(f:α→Int)(l:List α)(k:Nat)(y:α):((l.take k++y::l.drop k).map f).sum=(l.map f).sum+f y:=by
 have e:(l.map f).sum=((l.take k).map f).sum+((l.drop k).map f).sum:=by
  rw[←List.sum_append_int,←List.map_append,List.take_append_drop]
 rw[List.map_append,List.sum_append_int,List.map_cons,List.sum_cons,e];omega
def kI(l:List aQ):Int:=(l.map (·.bal)).sum
def nS(a:Ast)(x:Ln):Int:=if x.ast=a then x.bal else 0
def iA(a:Ast)(l:List Ln):Int:=(l.map (nS a)).sum
def tot(g:Lgr)(a:Ast):Int:=if a=nat then kI g.accs else iA a g.lines
def Qt(b:Ast)(acc:Int):Prop:=b=nat∨b.iss≠acc
def QtO(b:Ast)(g:Lgr):Prop:=∀o ∈ g.offers,Qt b o.sel
theorem sG{α:Type}{p:α→Bool}{l:List α}(h:l.findIdx? p=none):l.find? p=none:=by
 rw[List.find?_eq_none];intro x hx;have:=List.findIdx?_eq_none_iff.1 h x hx;simp[this]
theorem Dc{l:List aQ}{id m:Int}(h:(aK l id).isSome=true):kI (jW (isA id) (jY m) l)=kI l+m:=by
 rcases gR (isA id) (jY m) l with⟨h1,_⟩|⟨k,hk,_,hp,h1⟩
 ·unfold aK at h;rw[sG h1] at h;cases h
 rw[h1];unfold kI;rw[kV (fun x:aQ=>x.bal) l k hk];simp only[jY];omega
theorem Dd{l:List Ln}{acc:Int}{a b:Ast}{m:Int}(h:(bS l acc a).isSome=true):iA b (jW (isL acc a) (kY m) l)=iA b l+if b=a then m else 0:=by
 rcases gR (isL acc a) (kY m) l with⟨h1,_⟩|⟨k,hk,_,hp,h1⟩
 ·unfold bS at h;rw[sG h1] at h;cases h
 rw[h1];unfold iA;rw[kV (nS b) l k hk];unfold isL at hp;simp only[decide_eq_true_eq] at hp;simp only[nS,kY,hp.2];by_cases e:b=a
 ·subst e;simp only[if_true];omega
 have e':¬a=b:=fun h=>e h.symm;simp only[if_neg e,if_neg e'];omega
theorem De{g:Lgr}{acc:Int}{a:Ast}(h:(bN g acc a).2=true):(aK g.accs acc).isSome=true∧(a=nat∨a.iss=acc∨(bS g.lines acc a).isSome=true):=by
 unfold bN at h;cases e:aK g.accs acc with
 |none=>rw[e] at h;cases h
 |some x=>
  rw[e] at h;refine⟨rfl,?_⟩;simp only at h;split at h
  ·cases h
  split at h
  ·rename_i h2;exact .inl h2
  split at h
  ·rename_i h3;exact .inr (.inl h3)
  refine .inr (.inr ?_);cases e2:bS g.lines acc a with
  |none=>rw[e2] at h;cases h
  |some l=>rfl
theorem zB{g:Lgr}{acc:Int}{a b:Ast}{m:Int}(h:(bN g acc a).2=true)(hq:Qt b acc):tot (dN g acc a m) b=tot g b+if b=a then m else 0:=by
 obtain⟨h1,h2⟩:=De h;unfold dN;by_cases ha:a=nat
 ·rw[if_pos ha];unfold tot;by_cases hb:b=nat
  ·rw[if_pos hb,if_pos hb,if_pos (hb.trans ha.symm)];exact Dc h1
  rw[if_neg hb,if_neg hb,if_neg (fun e=>hb (e.trans ha))];simp
 rw[if_neg ha];by_cases hi:a.iss=acc
 ·rw[if_pos hi];by_cases hb:b=a
  ·rcases hq with hq|hq
   ·exact absurd (hb.symm.trans hq) ha
   rw[hb] at hq;exact absurd hi hq
  rw[if_neg hb];simp
 rw[if_neg hi];unfold tot;by_cases hb:b=nat
 ·rw[if_pos hb,if_pos hb,if_neg (fun e=>ha (e.symm.trans hb))];simp
 rw[if_neg hb,if_neg hb];rcases h2 with h2|h2|h2
 ·exact absurd h2 ha
 ·exact absurd h2 hi
 exact Dd h2
theorem zC{g:Lgr}{acc:Int}{a b:Ast}{n:Int}(h:(crd g acc a n).2=0)(hq:Qt b acc):tot (crd g acc a n).1 b=tot g b+if b=a then n else 0:=by
 obtain⟨_,h2,_,h4⟩:=lZ h;rw[h4];exact zB h2 hq
theorem zD{g:Lgr}{acc:Int}{a b:Ast}{n:Int}(h:(dbt g acc a n).2=0)(hq:Qt b acc):tot (dbt g acc a n).1 b=tot g b - if b=a then n else 0:=by
 obtain⟨_,h2,_,h4⟩:=mA h;rw[h4,zB h2 hq];split<;>omega
theorem wI(g:Lgr)(acc:Int)(a:Ast)(m:Int):(dN g acc a m).offers=g.offers:=(eH g acc a m).1
theorem EL{g:Lgr}{acc:Int}{a:Ast}{n:Int}(h:(crd g acc a n).2=0):(crd g acc a n).1.offers=g.offers:=by rw[(lZ h).2.2.2];exact wI _ _ _ _
theorem EM{g:Lgr}{acc:Int}{a:Ast}{n:Int}(h:(dbt g acc a n).2=0):(dbt g acc a n).1.offers=g.offers:=by rw[(mA h).2.2.2];exact wI _ _ _ _
theorem EN{d:dD}{k:Nat}{o:Ofr}{b:Ast}(hd:eV d)(hk:d.g.offers[k]?=some o)(hq:Qt b o.sel):
  tot (mQ d k o).g b=tot d.g b - (if b=o.sg then d.want - (mQ d k o).want else 0)+(if b=o.by_ then d.left - (mQ d k o).left else 0):=by
 obtain⟨h1,h2,h3⟩:=hd;obtain⟨hkl,hko⟩:=List.getElem?_eq_some_iff.1 hk;have ho:=(aS.1 h1).2.2.2.1 o (hko▸List.getElem_mem hkl);unfold mQ;split
 ·rename_i hn;obtain⟨u1,_,u3,_,_,_,_,_,_⟩:=xQ h1 h2.2 h3 ho hn;have e:tot (setO (jN d o) k {o with amt:=o.amt - dP d o}) b=tot (jN d o) b:=rfl;show tot (setO (jN d o) k {o with amt:=o.amt - dP d o}) b=_;rw[e];unfold jN;rw[zC u3 hq,zD u1 hq];simp only;have q1:d.want - (d.want - dP d o)=dP d o:=by omega
  have q2:d.left - (d.left - (upN (dP d o) o.num o.den).1)=(upN (dP d o) o.num o.den).1:=by omega
  rw[q1,q2]
 have q1:d.want - d.want=0:=by omega
 have q2:d.left - d.left=0:=by omega
 rw[q1,q2];split<;>split<;>omega
def jH(g h:Lgr):Prop:=∀x ∈ h.offers,∃o ∈ g.offers,x.id=o.id∧x.sel=o.sel∧x.sg=o.sg∧x.by_=o.by_
theorem jH.refl(g:Lgr):jH g g:=fun x hx=>⟨x,hx,rfl,rfl,rfl,rfl⟩
theorem jH.of{g h:Lgr}(e:h.offers=g.offers):jH g h:=fun x hx=>⟨x,e▸hx,rfl,rfl,rfl,rfl⟩
theorem jH.trans{a b c:Lgr}(h:jH a b)(k:jH b c):jH a c:=fun x hx=>by
 obtain⟨y,hy,e1,e2,e3,e4⟩:=k x hx;obtain⟨z,hz,f1,f2,f3,f4⟩:=h y hy;exact⟨z,hz,e1.trans f1,e2.trans f2,e3.trans f3,e4.trans f4⟩
theorem jH.qt{b:Ast}{g h:Lgr}(k:jH g h)(q:QtO b g):QtO b h:=fun x hx=>by
 obtain⟨y,hy,_,e,_⟩:=k x hx;rw[e];exact q y hy
theorem Df(d:dD)(k:Nat)(o:Ofr)(b:Ast):tot (jZ d k o).1.g b=tot d.g b∧(jZ d k o).1.want=d.want∧(jZ d k o).1.left=d.left∧jH d.g (jZ d k o).1.g:=by
 unfold jZ;split
 ·exact⟨rfl,rfl,rfl,jH.refl _⟩
 exact⟨rfl,rfl,rfl,fun x hx=>⟨x,List.mem_of_mem_eraseIdx hx,rfl,rfl,rfl,rfl⟩⟩
theorem Dg{d:dD}{id:Int}{b sg by_:Ast}(hd:eV d)(hi:id ∈ d.g.offers.map (·.id))(hq:QtO b d.g)(hs:∀o ∈ d.g.offers,o.id=id→o.sg=sg∧o.by_=by_):
  tot (gT d id).1.g b=tot d.g b - (if b=sg then d.want - (gT d id).1.want else 0)+(if b=by_ then d.left - (gT d id).1.left else 0)∧jH d.g (gT d id).1.g:=by
 obtain⟨k,o,G,m,wt,lf,c1,c2,c3,c4,c5,c6,c7,c8,c9⟩:=gE hd hi;obtain⟨hkl,hko⟩:=List.getElem?_eq_some_iff.1 c2;have hm:o ∈ d.g.offers:=hko▸List.getElem_mem hkl;have h1:=EN hd c2 (hq o hm);obtain⟨s1,s2⟩:=hs o hm c3;rw[c4,s1,s2] at h1;simp only at h1;obtain⟨e1,e2,e3,e4⟩:=Df ⟨setO G k {o with amt:=m},wt,lf⟩ k {o with amt:=m} b;rw[c8,e1,e2,e3];refine⟨h1,jH.trans (fun x hx=>?_) e4⟩;have hx:x ∈ G.offers.set k {o with amt:=m}:=hx;rcases List.mem_or_eq_of_mem_set hx with hx|rfl
 ·exact⟨x,c6▸hx,rfl,rfl,rfl,rfl⟩
 exact⟨o,hm,rfl,rfl,rfl,rfl⟩
theorem qA(taker:Int)(get give b:Ast):∀(l:List Ofr) (d:dD),eV d→(l.map (·.id)).Nodup→(∀o ∈ l,o.id ∈ d.g.offers.map (·.id))→QtO b d.g→(∀x ∈ l,∀o ∈ d.g.offers,o.id=x.id→o.sg=get∧o.by_=give)→
  tot (jD taker l d).g b=tot d.g b - (if b=get then d.want - (jD taker l d).want else 0)+(if b=give then d.left - (jD taker l d).left else 0)∧jH d.g (jD taker l d).g
 |[],d,_,_,_,_,_=>by
  unfold jD;refine⟨?_,jH.refl _⟩;split<;>split<;>omega
 |o::r,d,h,hn,hi,hq,hs=>by
  obtain⟨hn1,hn2⟩:=List.nodup_cons.1 hn;have hs':=fun x (hx:x ∈ r)=>hs x (List.mem_cons_of_mem _ hx);unfold jD;split
  ·exact qA taker get give b r d h hn2 (fun x hx=>hi x (List.mem_cons_of_mem _ hx)) hq hs'
  have ho:=hi o (List.mem_cons_self ..);obtain⟨k1,k2⟩:=mR h ho;obtain⟨t1,t2⟩:=Dg h ho hq (hs o (List.mem_cons_self ..));obtain⟨_,_,_,_,_,_,_,_,_,_,_,_,_,_,c9⟩:=gE h ho;split
  ·obtain⟨r1,r2⟩:=qA taker get give b r (gT d o.id).1 c9 hn2 (fun x hx=>k2 _ (hi x (List.mem_cons_of_mem _ hx)) (fun e=>hn1 (List.mem_map.2 ⟨x,hx,e⟩))) (t2.qt hq) (fun x hx y hy e=>by
    obtain⟨z,hz,e1,_,e3,e4⟩:=t2 y hy;have:=hs' x hx z hz (e1.symm.trans e);exact⟨e3.trans this.1,e4.trans this.2⟩)
   refine⟨?_,t2.trans r2⟩;rw[r1,t1];split<;>split<;>omega
  exact⟨t1,t2⟩
theorem Ij{l:List Ofr}(h:l.Pairwise (fun a b=>a.id<b.id)){x y:Ofr}(hx:x ∈ l)(hy:y ∈ l)(e:x.id=y.id):x=y:=by
 obtain⟨i,hi,rfl⟩:=List.getElem_of_mem hx;obtain⟨j,hj,rfl⟩:=List.getElem_of_mem hy;have hp:=List.pairwise_iff_getElem.1 h;rcases Nat.lt_trichotomy i j with h1|h1|h1
 ·have:=hp i j hi hj h1;omega
 ·subst h1;rfl
 have:=hp j i hj hi h1;omega
theorem EO{g:Lgr}{taker:Int}{get give b:Ast}{n most:Int}(h:(crs g taker get give n most).2=0)(hq:QtO b g):
  tot (crs g taker get give n most).1.1 b=tot g b - (if b=get then(crs g taker get give n most).1.2.1 else 0)+(if b=give then(crs g taker get give n most).1.2.2 else 0)∧jH g (crs g taker get give n most).1.1∧(crs g taker get give n most).1.2.1≤n:=by
 unfold crs at h ⊢;split at h
 ·contradiction
 rename_i h1;rw[if_neg h1];have h0:mT g get give n most=0:=by omega
 obtain⟨q1,q2,q3,q4,q5,q6⟩:=tM h0;obtain⟨b1,b2⟩:=mU (sg:=get) (by_:=give) q1;have hp:=(aS.1 q1).2.2.2.2;obtain⟨t1,t2⟩:=qA taker get give b (lC g get give) ⟨g,n,most⟩ ⟨q1,q5,q6⟩ b1 (fun o ho=>List.mem_map_of_mem (b2 o ho).1) hq (fun x hx o ho e=>by
  have:o=x:=Ij hp ho (b2 x hx).1 e;rw[this];exact(b2 x hx).2)
 have ok:=(tN (taker:=taker) h0).1;refine⟨t1,t2,?_⟩;show n - (mS g taker get give n most).want≤n;have:=ok.2.1.1;omega
theorem uA(frm:Int)(b:Ast):∀(l:List Ast) (x z:Ast) (g:Lgr) (need:Int),l.head?=some x→l.getLast?=some z→aH g=0→QtO b g→(cR frm l g need).2=0→
  tot (cR frm l g need).1.1 b=tot g b - (if b=x then need else 0)+(if b=z then(cR frm l g need).1.2 else 0)∧jH g (cR frm l g need).1.1
 |[],x,z,g,need,hx,_,_,_,_=>by cases hx
 |[y],x,z,g,need,hx,hz,hg,hq,_=>by
  unfold cR;have e1:y=x:=by simpa using hx
  have e2:y=z:=by simpa using hz
  subst e1 e2;refine⟨?_,jH.refl _⟩;show tot g b=tot g b - (if b=y then need else 0)+(if b=y then need else 0);split<;>omega
 |get::give::r,x,z,g,need,hx,hz,hg,hq,h=>by
  have e1:get=x:=by simpa using hx
  have hz':(give::r).getLast?=some z:=by rw[List.getLast?_cons_cons] at hz;exact hz
  subst e1;unfold cR at h ⊢;split at h
  ·rename_i h1;rw[if_pos h1];have:=uA frm b (give::r) give z g need rfl hz' hg hq h;rw[h1];exact this
  split at h
  ·contradiction
  split at h
  ·cases h
  rename_i h1 h2 h3;rw[if_neg h1,if_neg h2,if_neg h3];obtain⟨c1,c2⟩:=pT (show(crs g frm get give need 1000000000000).2=0 by omega);obtain⟨t1,t2,t3⟩:=EO (b:=b) (show(crs g frm get give need 1000000000000).2=0 by omega) hq;obtain⟨b1,b2⟩:=uA frm b (give::r) give z _ _ rfl hz' c1 (t2.qt hq) h;refine⟨?_,t2.trans b2⟩;rw[b1,t1];have e:(crs g frm get give need 1000000000000).1.2.1=need:=by omega
  rw[e];split<;>split<;>split<;>omega
theorem zF{g:Lgr}{frm:Int}{give:Ast}{paid to_:Int}{get b:Ast}{n:Int}(h:(mov g frm give paid to_ get n).2=0)(h1:Qt b frm)(h2:Qt b to_):
  tot (mov g frm give paid to_ get n).1 b=tot g b - (if b=give then paid else 0)+(if b=get then n else 0)∧(mov g frm give paid to_ get n).1.offers=g.offers:=by
 unfold mov at h ⊢;split at h
 ·contradiction
 split at h
 ·contradiction
 rename_i q1 q2;rw[if_neg q1,if_neg q2];have d0:(dbt g frm give paid).2=0:=by omega
 have c0:(crd (dbt g frm give paid).1 to_ get n).2=0:=by omega
 exact⟨by rw[zC c0 h2,zD d0 h1],by rw[EL c0,EM d0]⟩
def nN(b:Ast)(g h:Lgr):Prop:=tot h b=tot g b∧QtO b h
theorem EP{g:Lgr}{frm to_:Int}{a b:Ast}{n:Int}(h:(pay g frm to_ a n).2=0)(h1:Qt b frm)(h2:Qt b to_)(hq:QtO b g):nN b g (pay g frm to_ a n).1:=by
 unfold pay at h ⊢;split at h
 ·contradiction
 split at h
 ·cases h
 split at h
 ·cases h
 rename_i q1 q2 q3;rw[if_neg q1,if_neg q2,if_neg q3];obtain⟨t1,t2⟩:=zF h h1 h2;refine⟨by rw[t1];split<;>omega,fun o ho=>hq o (t2▸ho)⟩
theorem EQ{g:Lgr}(hg:aH g=0){frm to_:Int}{give get b:Ast}{path:List Ast}{n most:Int}(h:(jO g frm to_ give get path n most).2=0)(h1:Qt b frm)(h2:Qt b to_)(hq:QtO b g):nN b g (jO g frm to_ give get path n most).1.1:=by
 unfold jO at h ⊢;have hx:(([give]++path++[get]).reverse).head?=some get:=by simp
 have hz:(([give]++path++[get]).reverse).getLast?=some give:=by rw[List.getLast?_reverse];simp
 have hb:=uA frm b (([give]++path++[get]).reverse) get give g n hx hz hg hq;generalize cR frm (([give]++path++[get]).reverse) g n=B at*
 split at h
 ·contradiction
 split at h
 ·cases h
 split at h
 ·contradiction
 split at h
 ·cases h
 split at h
 ·contradiction
 rename_i q1 q2 q3 q4 q5;rw[if_neg q1,if_neg q2,if_neg q3,if_neg q4,if_neg q5];obtain⟨b1,b2⟩:=hb (by omega);obtain⟨t1,t2⟩:=zF (b:=b) (show(mov B.1.1 frm give B.1.2 to_ get n).2=0 by omega) h1 h2;refine⟨?_,fun o ho=>b2.qt hq o (t2▸ho)⟩;show tot (mov B.1.1 frm give B.1.2 to_ get n).1 b=_;rw[t1,b1];split<;>split<;>omega
theorem ER{g:Lgr}{s id:Int}{b:Ast}(h:(cnl g s id).2=0)(hq:QtO b g):nN b g (cnl g s id).1:=by
 unfold cnl at h ⊢;split at h
 ·contradiction
 rename_i h1;rw[if_neg h1];cases e:g.offers.findIdx? (isO id) with
 |none=>rw[e] at h;cases h
 |some k=>
  rw[e] at h;simp only at h ⊢;cases e2:g.offers[k]? with
  |none=>rw[e2] at h;cases h
  |some o=>
   rw[e2] at h;simp only at h ⊢;split at h
   ·cases h
   rename_i h3;rw[if_neg h3];exact⟨rfl,fun x hx=>hq x (List.mem_of_mem_eraseIdx hx)⟩
theorem Dh{g:Lgr}{s:Int}{sg by_ b:Ast}{amt n d:Int}(h:(iT g s sg by_ amt n d).2=0)(h1:Qt b s)(hq:QtO b g):nN b g (iT g s sg by_ amt n d).1.1:=by
 unfold iT at h ⊢;split at h
 ·contradiction
 rename_i h3;rw[if_neg h3];refine⟨rfl,fun x hx=>?_⟩;have hx:x ∈ g.offers++[⟨g.nid,s,sg,by_,amt,(cI n d).1,(cI n d).2⟩]:=hx;rcases List.mem_append.1 hx with hx|hx
 ·exact hq x hx
 rw[List.mem_singleton] at hx;subst hx;exact h1
theorem ES{l:List Ln}{acc lim:Int}{a b:Ast}(h:(lmt l acc a lim).2=0):iA b (lmt l acc a lim).1=iA b l:=by
 unfold lmt at h ⊢;split at h
 ·contradiction
 rename_i h1;rw[if_neg h1];cases e:l.findIdx? (isL acc a) with
 |none=>
  rw[e] at h;simp only at h ⊢;split at h
  ·rename_i h2;rw[if_pos h2]
  split at h
  ·cases h
  rename_i h2 h3;rw[if_neg h2,if_neg h3];show iA b (vR l acc a lim)=_;unfold vR iA;rw[zA];simp[nS]
 |some k=>
  rw[e] at h;simp only at h ⊢;cases e2:l[k]? with
  |none=>
   obtain⟨hk,_⟩:=List.findIdx?_eq_some_iff_getElem.1 e;rw[List.getElem?_eq_getElem hk] at e2;cases e2
  |some x=>
   obtain⟨hk,hx⟩:=List.getElem?_eq_some_iff.1 e2;rw[e2] at h;simp only at h ⊢;split at h
   ·cases h
   split at h
   ·rename_i h2 h3;rw[if_neg h2,if_pos h3];show iA b (l.eraseIdx k)=_;unfold iA;rw[sF _ _ _ hk,hx];simp[nS,h3.2]
   rename_i h2 h3;rw[if_neg h2,if_neg h3];show iA b (l.set k {x with lim:=lim})=_;unfold iA;rw[kV _ _ _ hk,hx];simp only[nS];split<;>omega
theorem ET{g:Lgr}{src:Int}{o:Opr}(h:(jP g src o).2=0):kI (jP g src o).1=kI g.accs:=by
 unfold jP at h ⊢;split at h
 ·rename_i h1;rw[if_pos h1];obtain⟨_,k,hk,_,h4,h5⟩:=kR h1;have e1:kI (eW (eD o.amt) g.accs src).1=kI g.accs - o.amt:=by
   rw[h5];unfold kI;rw[kV (fun x:aQ=>x.bal) _ _ hk];unfold eD at h4 ⊢;split at h4
   ·cases h4
   split at h4
   ·cases h4
   rename_i q1 q2;rw[if_neg q1,if_neg q2];simp only;omega
  generalize(eW (eD o.amt) g.accs src).1=L at*
  unfold qD at h ⊢;split at h
  ·contradiction
  split at h
  ·cases h
  split at h
  ·cases h
  split at h
  ·cases h
  rename_i q1 q2 q3 q4;rw[if_neg q1,if_neg q2,if_neg q3,if_neg q4];show kI (L.take (jE L o.to_)++⟨o.to_,o.amt,0⟩::L.drop (jE L o.to_))=_;unfold kI at e1 ⊢;rw[zA (fun x:aQ=>x.bal),e1];simp only;omega
 rename_i h1;exact absurd h h1
theorem Di{g:Lgr}{l:List aQ}{b:Ast}(h:kI l=kI g.accs):tot {g with accs:=l} b=tot g b:=by
 unfold tot;split
 ·exact h
 rfl
theorem AY{g:Lgr}{l:List Ln}{b:Ast}(h:iA b l=iA b g.lines):tot {g with lines:=l} b=tot g b:=by
 unfold tot;split
 ·rfl
 exact h
theorem EU{g:Lgr}(hg:aH g=0){src:Int}{o:Opr}{b:Ast}(h:(wrk g src o).2=0)(h1:Qt b src)(h2:Qt b o.to_)(hq:QtO b g):nN b g (wrk g src o).1:=by
 unfold wrk at h ⊢;split at h
 ·rename_i k;rw[if_pos k];exact⟨Di (ET h),hq⟩
 split at h
 ·rename_i k1 k;rw[if_neg k1,if_pos k];exact EP h h1 h2 hq
 split at h
 ·rename_i k1 k2 k;rw[if_neg k1,if_neg k2,if_pos k];exact⟨AY (ES h),hq⟩
 split at h
 ·rename_i k1 k2 k3 k;rw[if_neg k1,if_neg k2,if_neg k3,if_pos k];exact Dh h h1 hq
 split at h
 ·rename_i k1 k2 k3 k4 k;rw[if_neg k1,if_neg k2,if_neg k3,if_neg k4,if_pos k];exact ER h hq
 rename_i k1 k2 k3 k4 k5;rw[if_neg k1,if_neg k2,if_neg k3,if_neg k4,if_neg k5];exact EQ hg h h1 h2 hq
theorem wJ{g:Lgr}{src:Int}{o:Opr}(h:(doO g src o).2=0):doE g src o=0∧(wrk g src o).2=0∧(doO g src o).1=(wrk g src o).1:=by
 unfold doO at h ⊢;split at h
 ·contradiction
 split at h
 ·contradiction
 rename_i h1 h2;rw[if_neg h1,if_neg h2];exact⟨by omega,by omega,rfl⟩
theorem Gz{g:Lgr}{src:Int}{o:Opr}{b:Ast}(h:(doO g src o).2=0)(h1:Qt b src)(h2:Qt b o.to_)(hq:QtO b g):nN b g (doO g src o).1:=by
 obtain⟨e1,e2,e3⟩:=wJ h;rw[e3];have hg:aH g=0:=by
  unfold doE at e1;split at e1
  ·contradiction
  rename_i k;omega
 exact EU hg e2 h1 h2 hq
theorem Dk{g:Lgr}{src:Int}{o:Opr}(h:(doO g src o).2=0):aH (doO g src o).1=0∧eM g (doO g src o).1:=Gm h
theorem sL{g:Lgr}{t:Txn}(h:qH g t=0):aH g=0∧vTx t=true∧(eW (fU t.seq t.fee) g.accs t.src).2=0∧(lX g.fees t.fee).2=0:=by
 unfold qH at h;split at h
 ·contradiction
 split at h
 ·cases h
 split at h
 ·contradiction
 rename_i h1 h2 h3;exact⟨by omega,by simpa using h2,by omega,h⟩
theorem sM{seq fee:Int}{x:aQ}(h:(fU seq fee x).2=0):seq=x.seq+1∧seq≤1000000∧1≤fee∧fee≤100000∧fee≤x.bal∧(fU seq fee x).1={x with seq:=seq,bal:=x.bal - fee}:=by
 unfold fU at h ⊢;split at h
 ·cases h
 split at h
 ·cases h
 split at h
 ·cases h
 rename_i h1 h2 h3;rw[if_neg h1,if_neg h2,if_neg h3];exact⟨by omega,by omega,by omega,by omega,by omega,rfl⟩
theorem AZ{a b:Int}(h:(lX a b).2=0):(lX a b).1=a+b∧0≤a+b∧a+b≤1000000000000:=by
 unfold lX lB at h ⊢;split at h
 ·rename_i h1;rw[if_pos h1];simp only[List.cons_append,List.nil_append,List.all_cons,List.all_nil,Bool.and_true,Bool.and_eq_true,dE] at h1;exact⟨rfl,h1.2.2⟩
 cases h
structure Beg (g:Lgr) (t:Txn) (h:Lgr):Prop where
 ok:aH h=0
 num:h.num=g.num
 link:h.link=g.link
 nid:h.nid=g.nid
 offers:h.offers=g.offers
 lines:h.lines=g.lines
 fees:h.fees=g.fees+t.fee
 tot:kI h.accs=kI g.accs - t.fee
 oth:∀id x,id≠t.src→aK g.accs id=some x→∃y,aK h.accs id=some y∧y.seq=x.seq
 src:∃x y,aK g.accs t.src=some x∧aK h.accs t.src=some y∧t.seq=x.seq+1∧y.seq=t.seq
theorem wK{l:List aQ}{k:Nat}(hk:k<l.length){y:aQ}(hi:y.id=l[k].id){id:Int}(hne:id≠y.id):aK (l.set k y) id=aK l id:=by
 unfold aK;refine vO hk ?_ ?_
 ·unfold isA;rw[decide_eq_false_iff_not];intro e;exact hne (e.symm.trans hi.symm)
 unfold isA;rw[decide_eq_false_iff_not];intro e;exact hne e.symm
theorem wL{l:List aQ}{k:Nat}(hk:k<l.length){y:aQ}(hi:y.id=l[k].id){id:Int}(he:id=y.id)(hp:l.Pairwise (fun a b=>a.id<b.id)):aK (l.set k y) id=some y:=by
 unfold aK;rw[List.find?_eq_some_iff_getElem];refine⟨by unfold isA;rw[decide_eq_true_eq];exact he.symm,k,by simpa using hk,by simp,fun j hj=>?_⟩;rw[List.getElem_set_ne (by omega)];have:=List.pairwise_iff_getElem.1 hp j k (by omega) hk hj;unfold isA;simp only[Bool.not_eq_true',decide_eq_false_iff_not];omega
theorem xX{g:Lgr}{t:Txn}(h:qH g t=0):Beg g t (fH g t):=by
 obtain⟨h1,h2,h3,h4⟩:=sL h;obtain⟨c1,k,hk,c2,c3,c4⟩:=kR h3;obtain⟨b1,b2,b3,b4,b5,b6⟩:=sM c3;obtain⟨a1,a2,a3⟩:=AZ h4;obtain⟨g1,g2,g3,g4,g5⟩:=aS.1 h1;obtain⟨l1,l2,l3,l4⟩:=bJ.1 g1;obtain⟨x1,x2,x3⟩:=bI.1 l1;have hm:=cQ.1 (x2 _ (List.getElem_mem hk));have hid:(fU t.seq t.fee g.accs[k]).1.id=g.accs[k].id:=by rw[b6]
 have hks:isA t.src g.accs[k]=true:=by
  unfold aK at c2;exact List.find?_some c2
 have hkid:g.accs[k].id=t.src:=by unfold isA at hks;simpa using hks
 have hset:(fH g t).accs=g.accs.set k (fU t.seq t.fee g.accs[k]).1:=c4;have hlg:=g3;unfold dI at hlg;simp only[Bool.and_eq_true,decide_eq_true_eq,dE] at hlg;refine⟨?_,rfl,rfl,rfl,rfl,rfl,a1,?_,fun id x hne hf=>?_,?_⟩
 ·refine tI h1 ?_ (fun y hy=>?_) rfl l3 rfl rfl ?_
  ·rw[hset];exact jC (fun x:aQ=>x.id) _ k hk _ hid
  ·rw[hset] at hy;rcases List.mem_or_eq_of_mem_set hy with hy|rfl
   ·exact x2 y hy
   rw[b6];exact cQ.2 ⟨hm.1,by simp only;omega,by simp only;omega⟩
  unfold dI;simp only[Bool.and_eq_true,decide_eq_true_eq,dE];refine⟨hlg.1,?_,hlg.2.2⟩;show 0≤(lX g.fees t.fee).1∧(lX g.fees t.fee).1≤1000000000000;rw[a1];exact⟨a2,a3⟩
 ·rw[hset];unfold kI;rw[kV (fun x:aQ=>x.bal) _ _ hk,b6];simp only;omega
 ·rw[hset];refine⟨x,?_,rfl⟩;rw[wK hk hid (by rw[hid,hkid];exact hne)];exact hf
 refine⟨g.accs[k],(fU t.seq t.fee g.accs[k]).1,c2,?_,b1,by rw[b6]⟩;rw[hset];exact wL hk hid (by rw[hid,hkid]) x3
theorem zG(B:Lgr)(src:Int):∀(l:List Opr) (now:Lgr) (i:Int),0≤i→0≤(gV B src l now i).2.2
 |[],now,i,_=>by unfold gV;exact Int.le_refl _
 |o::r,now,i,hi=>by
  unfold gV;split
  ·exact hi
  exact zG B src r _ _ (by omega)
theorem uB{B:Lgr}(hB:aH B=0)(src:Int):∀(l:List Opr) (now:Lgr) (i:Int),aH now=0→eM B now→aH (gV B src l now i).1=0∧eM B (gV B src l now i).1
 |[],now,i,h,k=>by unfold gV;exact⟨h,k⟩
 |o::r,now,i,h,k=>by
  unfold gV;split
  ·exact⟨hB,eM.refl _⟩
  rename_i e;obtain⟨c1,c2⟩:=Dk (show(doO now src o).2=0 by omega);exact uB hB src r _ _ c1 (k.trans c2)
theorem wM{B:Lgr}{b:Ast}(src:Int)(hs:Qt b src)(hB:QtO b B):∀(l:List Opr) (now:Lgr) (i:Int),(∀o ∈ l,Qt b o.to_)→nN b B now→nN b B (gV B src l now i).1
 |[],now,i,_,h=>by unfold gV;exact h
 |o::r,now,i,hl,h=>by
  unfold gV;split
  ·exact⟨rfl,hB⟩
  rename_i e;have:=Gz (b:=b) (show(doO now src o).2=0 by omega) hs (hl o (List.mem_cons_self ..)) h.2;exact wM src hs hB r _ _ (fun x hx=>hl x (List.mem_cons_of_mem _ hx)) ⟨this.1.trans h.1,this.2⟩
structure Apl (g:Lgr) (t:Txn) (r:Lgr × Int × Int):Prop where
 ok:aH r.1=0
 num:r.1.num=g.num
 link:r.1.link=g.link
 ref:r.2.2<0→r.1=g
 fees:r.1.fees=g.fees+if 0≤r.2.2 then t.fee else 0
 oth:∀id x,id≠t.src→aK g.accs id=some x→∃y,aK r.1.accs id=some y∧y.seq=x.seq
 src:0≤r.2.2→∃x y,aK g.accs t.src=some x∧aK r.1.accs t.src=some y∧t.seq=x.seq+1∧y.seq=t.seq
theorem uC{g:Lgr}(hg:aH g=0)(t:Txn):Apl g t (fA g t):=by
 unfold fA;by_cases h:qH g t=0
 ·rw[if_neg (by omega)];have B:=xX h;obtain⟨c1,c2⟩:=uB B.ok t.src t.ops (fH g t) 0 B.ok (eM.refl _);have c3:=zG (fH g t) t.src t.ops (fH g t) 0 (Int.le_refl _);obtain⟨k1,k2,k3,k4⟩:=c2;refine⟨c1,k1.trans B.num,k3.trans B.link,fun e=>absurd c3 (Int.not_le.2 e),?_,fun id x hne hf=>?_,fun _=>?_⟩
  ·rw[if_pos c3,k2,B.fees]
  ·obtain⟨y,hy,e1⟩:=B.oth id x hne hf;obtain⟨z,hz,e2⟩:=k4 id y hy;exact⟨z,hz,e2.trans e1⟩
  obtain⟨x,y,hx,hy,e1,e2⟩:=B.src;obtain⟨z,hz,e3⟩:=k4 _ y hy;exact⟨x,z,hx,hz,e1,e3.trans e2⟩
 rw[if_pos h];exact⟨hg,rfl,rfl,fun _=>rfl,by show g.fees=g.fees+(if(0:Int)≤ -1 then t.fee else 0);rw[if_neg (by decide)];omega,fun id x _ hf=>⟨x,hf,rfl⟩,fun e=>absurd e (show ¬(0:Int)≤ -1 by decide)⟩
def sup(g:Lgr)(a:Ast):Int:=if a=nat then kI g.accs+g.fees else iA a g.lines
theorem zH(g:Lgr)(a:Ast):sup g a=tot g a+if a=nat then g.fees else 0:=by
 unfold sup tot;split<;>omega
theorem EV{g:Lgr}{t:Txn}{b:Ast}(hg:aH g=0)(h1:Qt b t.src)(h2:∀o ∈ t.ops,Qt b o.to_)(hq:QtO b g):sup (fA g t).1 b=sup g b∧QtO b (fA g t).1:=by
 have A:=uC hg t;unfold fA at A ⊢;by_cases h:qH g t=0
 ·rw[if_neg (by omega)] at A ⊢;have B:=xX h;have hqB:QtO b (fH g t):=fun o ho=>hq o (B.offers▸ho);obtain⟨r1,r2⟩:=wM (B:=fH g t) (b:=b) t.src h1 hqB t.ops (fH g t) 0 h2 ⟨rfl,hqB⟩;obtain⟨c1,c2⟩:=uB B.ok t.src t.ops (fH g t) 0 B.ok (eM.refl _);refine⟨?_,r2⟩;rw[zH,zH,r1,c2.2.1,B.fees];unfold tot;rw[B.tot,B.lines];split<;>omega
 rw[if_pos h];exact⟨rfl,hq⟩
def GB:List Txn→List (Int × Int)→Int
 |t::l,r::s=>(if 0≤r.2 then t.fee else 0)+GB l s
 |_,_=>0
theorem wO:∀(l:List Txn) (g:Lgr),(cG l g).2.length=l.length
 |[],_=>rfl
 |t::r,g=>by unfold cG;simp[wO r]
structure Run (l:List Txn) (g:Lgr):Prop where
 ok:aH (cG l g).1=0
 num:(cG l g).1.num=g.num
 link:(cG l g).1.link=g.link
 fees:(cG l g).1.fees=g.fees+GB l (cG l g).2
 oth:∀id x,(∀t ∈ l,t.src≠id)→aK g.accs id=some x→∃y,aK (cG l g).1.accs id=some y∧y.seq=x.seq
theorem uD:∀(l:List Txn) (g:Lgr),aH g=0→Run l g
 |[],g,hg=>⟨hg,rfl,rfl,by show g.fees=g.fees+0;omega,fun id x _ h=>⟨x,h,rfl⟩⟩
 |t::r,g,hg=>by
  have A:=uC hg t;have R:=uD r (fA g t).1 A.ok;have e1:(cG (t::r) g).1=(cG r (fA g t).1).1:=rfl;have e2:(cG (t::r) g).2=(fA g t).2::(cG r (fA g t).1).2:=rfl;refine⟨by rw[e1];exact R.ok,by rw[e1];exact R.num.trans A.num,by rw[e1];exact R.link.trans A.link,?_,fun id x hn hf=>?_⟩
  ·rw[e1,e2,R.fees,A.fees];show _=g.fees+((if 0≤(fA g t).2.2 then t.fee else 0)+GB r (cG r (fA g t).1).2);omega
  obtain⟨y,hy,k1⟩:=A.oth id x (fun e=>hn t (List.mem_cons_self ..) e.symm) hf;obtain⟨z,hz,k2⟩:=R.oth id y (fun u hu=>hn u (List.mem_cons_of_mem _ hu)) hy;exact⟨z,by rw[e1];exact hz,k2.trans k1⟩
theorem zI{b:Ast}:∀(l:List Txn) (g:Lgr),aH g=0→(∀t ∈ l,Qt b t.src∧∀o ∈ t.ops,Qt b o.to_)→QtO b g→sup (cG l g).1 b=sup g b∧QtO b (cG l g).1
 |[],g,_,_,hq=>⟨rfl,hq⟩
 |t::r,g,hg,hl,hq=>by
  have A:=uC hg t;obtain⟨h1,h2⟩:=hl t (List.mem_cons_self ..);obtain⟨s1,s2⟩:=EV hg h1 h2 hq;obtain⟨r1,r2⟩:=zI r (fA g t).1 A.ok (fun u hu=>hl u (List.mem_cons_of_mem _ hu)) s2;exact⟨r1.trans s1,r2⟩
theorem EW{g:Lgr}(hg:aH g=0){n:Int}(hn:0≤n∧n≤1000000):aH {g with num:=n}=0:=by
 obtain⟨g1,g2,g3,g4,g5⟩:=aS.1 hg;refine aS.2 ⟨g1,g2,?_,g4,g5⟩;unfold dI at g3 ⊢;simp only[Bool.and_eq_true,decide_eq_true_eq] at g3 ⊢;exact⟨g3.1,g3.2.1,hn⟩
theorem Dl{g:Lgr}{l:List Txn}(hg:aH g=0)(hl:cS l=0)(hn:g.num<1000000):Ax g l=(({(cG l g).1 with num:=(cG l g).1.num+1},(cG l g).2),0)∧aH {(cG l g).1 with num:=(cG l g).1.num+1}=0:=by
 have e:Aw g l=0:=by
  unfold Aw;rw[if_neg (by omega),if_neg (by omega),if_neg (by omega)]
 have R:=uD l g hg;have hk:=(aS.1 hg).2.2.1;unfold dI at hk;simp only[Bool.and_eq_true,decide_eq_true_eq] at hk;constructor
 ·unfold Ax;rw[if_neg (by omega)]
 exact EW R.ok (by rw[R.num];omega)
def eX(n:Int)(l:List aQ):Prop:=∀x ∈ l,x.seq≤n
theorem oI{n:Int}{l m:List aQ}(e:m.map (fun x=>(x.id,x.seq))=l.map (fun x=>(x.id,x.seq)))(h:eX n l):eX n m:=fun x hx=>by
 have:(x.id,x.seq) ∈ m.map (fun x=>(x.id,x.seq)):=List.mem_map.2 ⟨x,hx,rfl⟩;rw[e] at this;obtain⟨y,hy,e2⟩:=List.mem_map.1 this;injection e2 with _ e3
 rw[←e3];exact h y hy
theorem wP{g:Lgr}{frm:Int}{give:Ast}{paid to_:Int}{get:Ast}{n:Int}(h:(mov g frm give paid to_ get n).2=0):gA g (mov g frm give paid to_ get n).1:=by
 unfold mov at h ⊢;split at h
 ·contradiction
 split at h
 ·contradiction
 rename_i q1 q2;rw[if_neg q1,if_neg q2];exact(mC (by omega)).trans (vS (by omega))
theorem nC(frm:Int):∀(l:List Ast) (g:Lgr) (need:Int),(cR frm l g need).2=0→gA g (cR frm l g need).1.1
 |[],g,need,_=>by unfold cR;exact gA.refl _
 |[_],g,need,_=>by unfold cR;exact gA.refl _
 |get::give::r,g,need,h=>by
  unfold cR at h ⊢;split at h
  ·rename_i h1;rw[if_pos h1];exact nC frm (give::r) g need h
  split at h
  ·contradiction
  split at h
  ·cases h
  rename_i h1 h2 h3;rw[if_neg h1,if_neg h2,if_neg h3];exact(pT (show(crs g frm get give need 1000000000000).2=0 by omega)).2.trans (nC frm (give::r) _ _ h)
theorem Fg{g:Lgr}{frm to_:Int}{a:Ast}{n k:Int}(h:(pay g frm to_ a n).2=0)(hs:eX k g.accs):eX k (pay g frm to_ a n).1.accs:=by
 unfold pay at h ⊢;split at h
 ·contradiction
 split at h
 ·cases h
 split at h
 ·cases h
 rename_i q1 q2 q3;rw[if_neg q1,if_neg q2,if_neg q3];exact oI (wP h).2.2.2.2.1 hs
theorem Fh{g:Lgr}{frm to_:Int}{give get:Ast}{path:List Ast}{n most k:Int}(h:(jO g frm to_ give get path n most).2=0)(hs:eX k g.accs):eX k (jO g frm to_ give get path n most).1.1.accs:=by
 unfold jO at h ⊢;have hb:=nC frm (([give]++path++[get]).reverse) g n;generalize cR frm (([give]++path++[get]).reverse) g n=B at*
 split at h
 ·contradiction
 split at h
 ·cases h
 split at h
 ·contradiction
 split at h
 ·cases h
 split at h
 ·contradiction
 rename_i q1 q2 q3 q4 q5;rw[if_neg q1,if_neg q2,if_neg q3,if_neg q4,if_neg q5];exact oI (wP (show(mov B.1.1 frm give B.1.2 to_ get n).2=0 by omega)).2.2.2.2.1 (oI (hb (by omega)).2.2.2.2.1 hs)
theorem Fi{g:Lgr}{s id k:Int}(h:(cnl g s id).2=0)(hs:eX k g.accs):eX k (cnl g s id).1.accs:=by
 unfold cnl at h ⊢;split at h
 ·contradiction
 rename_i h1;rw[if_neg h1];cases e:g.offers.findIdx? (isO id) with
 |none=>rw[e] at h;cases h
 |some j=>
  rw[e] at h;simp only at h ⊢;cases e2:g.offers[j]? with
  |none=>rw[e2] at h;cases h
  |some o=>
   rw[e2] at h;simp only at h ⊢;split at h
   ·cases h
   rename_i h3;rw[if_neg h3];exact hs
theorem Fk{g:Lgr}{src k:Int}{o:Opr}(hk:0≤k)(h:(jP g src o).2=0)(hs:eX k g.accs):eX k (jP g src o).1:=by
 unfold jP at h ⊢;split at h
 ·rename_i h1;rw[if_pos h1];have hs2:=oI (tP h1).2 hs;generalize(eW (eD o.amt) g.accs src).1=L at*
  unfold qD at h ⊢;split at h
  ·contradiction
  split at h
  ·cases h
  split at h
  ·cases h
  split at h
  ·cases h
  rename_i q1 q2 q3 q4;rw[if_neg q1,if_neg q2,if_neg q3,if_neg q4];intro x hx;have hx:x ∈ L.take (jE L o.to_)++⟨o.to_,o.amt,0⟩::L.drop (jE L o.to_):=hx;rcases List.mem_append.1 hx with hx|hx
  ·exact hs2 x (List.mem_of_mem_take hx)
  rcases List.mem_cons.1 hx with rfl|hx
  ·exact hk
  exact hs2 x (List.mem_of_mem_drop hx)
 rename_i h1;exact absurd h h1
theorem Fn{g:Lgr}{src k:Int}{o:Opr}(hk:0≤k)(h:(wrk g src o).2=0)(hs:eX k g.accs):eX k (wrk g src o).1.accs:=by
 unfold wrk at h ⊢;split at h
 ·rename_i j;rw[if_pos j];exact Fk hk h hs
 split at h
 ·rename_i j1 j;rw[if_neg j1,if_pos j];exact Fg h hs
 split at h
 ·rename_i j1 j2 j;rw[if_neg j1,if_neg j2,if_pos j];exact hs
 split at h
 ·rename_i j1 j2 j3 j;rw[if_neg j1,if_neg j2,if_neg j3,if_pos j];show eX k (iT g src o.ast o.oth o.amt o.num o.den).1.1.accs;unfold iT at h ⊢;split at h
  ·contradiction
  rename_i h3;rw[if_neg h3];exact hs
 split at h
 ·rename_i j1 j2 j3 j4 j;rw[if_neg j1,if_neg j2,if_neg j3,if_neg j4,if_pos j];exact Fi h hs
 rename_i j1 j2 j3 j4 j5;rw[if_neg j1,if_neg j2,if_neg j3,if_neg j4,if_neg j5];exact Fh h hs
theorem GC{g:Lgr}{src k:Int}{o:Opr}(hk:0≤k)(h:(doO g src o).2=0)(hs:eX k g.accs):eX k (doO g src o).1.accs:=by
 obtain⟨_,e2,e3⟩:=wJ h;rw[e3];exact Fn hk e2 hs
theorem wQ{B:Lgr}{src k:Int}(hk:0≤k)(hB:eX k B.accs):∀(l:List Opr) (now:Lgr) (i:Int),eX k now.accs→eX k (gV B src l now i).1.accs
 |[],now,i,h=>by unfold gV;exact h
 |o::r,now,i,h=>by
  unfold gV;split
  ·exact hB
  rename_i e;exact wQ hk hB r _ _ (GC hk (by omega) h)
theorem Fo{g:Lgr}{t:Txn}{k:Int}(hk:0≤k)(hs:eX k g.accs):eX (k+1) (fA g t).1.accs:=by
 have hs1:eX (k+1) g.accs:=fun x hx=>by have:=hs x hx;omega
 unfold fA;split
 ·exact hs1
 rename_i h;obtain⟨h1,h2,h3,h4⟩:=sL (show qH g t=0 by omega);obtain⟨c1,j,hj,c2,c3,c4⟩:=kR h3;obtain⟨b1,b2,b3,b4,b5,b6⟩:=sM c3;have hB:eX (k+1) (fH g t).accs:=fun x hx=>by
  have hx:x ∈ (eW (fU t.seq t.fee) g.accs t.src).1:=hx;rw[c4] at hx;rcases List.mem_or_eq_of_mem_set hx with hx|rfl
  ·exact hs1 x hx
  rw[b6];have:=hs _ (List.getElem_mem hj);show t.seq≤k+1;omega
 exact wQ (by omega) hB t.ops _ 0 hB
theorem zK:∀(l:List Txn) (g:Lgr) (k:Int),0≤k→eX k g.accs→eX (k+l.length) (cG l g).1.accs
 |[],g,k,_,h=>by
  show eX (k+0) g.accs;rw[Int.add_zero];exact h
 |t::r,g,k,hk,h=>by
  have:=zK r (fA g t).1 (k+1) (by omega) (Fo hk h);show eX _ (cG r (fA g t).1).1.accs;rw[show(k+((t::r).length:Int))=k+1+r.length by simp only[List.length_cons];omega];exact this
theorem GD{g:Lgr}(hg:aH g=0){x:aQ}(hx:x ∈ g.accs):0≤x.seq:=(cQ.1 ((bI.1 (bJ.1 (aS.1 hg).1).1).2.1 x hx)).2.2.1
def mF(l:List aQ):Int:=(l.map (·.bal)).sum
theorem Bc{l:List aQ}{k:Nat}(hk:k<l.length):mF (l.take (k+1))=mF (l.take k)+l[k].bal:=by
 unfold mF;rw[List.take_succ_eq_append_getElem hk,List.map_append,List.sum_append];simp only[List.map_cons,List.map_nil,List.sum_cons,List.sum_nil,Int.add_zero]
theorem wR{l:List aQ}(h:cC l=0):l.length≤20∧∀x ∈ l,0≤x.bal∧x.bal≤1000000000000:=by
 unfold cC at h;split at h
 ·cases h
 split at h
 ·rename_i h1 h2;refine⟨by omega,fun x hx=>?_⟩;obtain⟨j,hj,rfl⟩:=List.getElem_of_mem hx;have:=(dU _ _ _).1 h2 j hj;unfold iX nP at this;simp only[Bool.and_eq_true,decide_eq_true_eq] at this;exact fC.1 this.1.2.1
 cases h
theorem Dv(l:List aQ)(v:Value)(w:World)(h:SlR aP w none v l)(hk0:cC l=0):Calls Tryz.prog 49 #[v] w fun e w'=>e= .returned (.int .i64 (mF l))∧Fr none w w':=by
 obtain⟨h20,hbal⟩:=wR hk0;have HS:=sH h;obtain⟨A,c,rfl,q1,q2,hc⟩:=aN h;have HC:=sH hc;have HBL:=sH hbal;have HK:=sH hk0;clear h hc hbal hk0;go_enter Tryz.func49,Tryz.ntmps49;go_wp2_with fail;go_loopw [3,8] (fun s3 s8 wr=>∃(k:Nat) (s:Int),k≤l.length∧s8= .int .i64 (k:Int)∧s3= .int .i64 s∧Hid (s=mF (l.take k))∧0≤s∧s≤1000000000000*k∧Fr none w wr) (fun _ s8 _=>l.length - (intOf s8).toNat)
 case atStart=>exact⟨0,0,Nat.zero_le _,rfl,rfl,rfl,by omega,by omega,Fr.refl _ _⟩
 case round=>
  obtain⟨k,s,hk,rfl,rfl,HSm,hs0,hs1,F⟩:=hrel;by_cases hlt:k<l.length
  ·obtain⟨b,off,rfl,hb,_,hcc⟩:=HC.out (by omega);obtain⟨c0,c1,c2⟩:=hcc k hlt;have c0:=F.keep c0;have c1:=F.keep c1;have c2:=F.keep c2;have hb2:=HBL.out _ (List.getElem_mem hlt);have HN:Hid (s+l[k].bal=mF (l.take (k+1))):=by unfold Hid;rw[Bc hlt,←HSm.out]
   clear hcc;generalize l[k]=x at*
   have hw:wrap64 (s+x.bal)=s+x.bal:=by unfold wrap64;omega
   have h0:0≤s+x.bal:=by omega
   have h1:s+x.bal≤1000000000000*((k+1:Nat):Int):=by omega
   go_wp2_with fail;go_roundw
   case rel=>exact⟨k+1,s+x.bal,by omega,by go_num,rfl,HN,h0,h1,F.alloc _⟩
   case measure=>simp[intOf];omega
  obtain rfl:k=l.length:=by omega
  have HX:Hid (s=mF l):=by unfold Hid;rw[HSm.out,List.take_length]
  have hcall:=iU l _ wr (HS.out.fr F);rw[HK.out] at hcall;go_wp2_with fail;refine hcall.mono ?_;rintro e w2 ⟨rfl,F2⟩;go_wp2;go_ret;exact⟨aM HX.out,F.pure F2⟩
end Go.Proofs.YthaggndnfamhjaaGreatDoor
