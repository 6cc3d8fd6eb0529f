/- Texts, joined. -/
import Derived.Test.YthaggndnfamhjaaGreatDoorProg
import Derived.Test.YthaggndnfamhjaaGreatDoorJK14
import Derived.Test.YthaggndnfamhjaaGreatDoorJK30
import Derived.Test.YthaggndnfamhjaaGreatDoorJK4
import Derived.Test.YthaggndnfamhjaaGreatDoorJK36
import Derived.Test.YthaggndnfamhjaaGreatDoorJK32
import Derived.Test.YthaggndnfamhjaaGreatDoorJK8
import Derived.Test.YthaggndnfamhjaaGreatDoorJK12
import Derived.Test.YthaggndnfamhjaaGreatDoorJB
import Derived.Test.YthaggndnfamhjaaGreatDoorJA

set_option linter.unusedSimpArgs false
set_option linter.unusedVariables false
set_option maxRecDepth 100000
set_option maxHeartbeats 16000000
namespace Go.Proofs.YthaggndnfamhjaaGreatDoor
open Go.RowKit
theorem EH{l:List aQ}{id:Int}{i:Nat}(hi:i≤l.length)(h1:∀k (hk:k<l.length),k<i→l[k].id<id)(h2:∀k (hk:k<l.length),i≤k→id≤l[k].id):jE l id=i:=by
 unfold jE;have e:l=l.take i++l.drop i:=(List.take_append_drop i l).symm;rw[e,List.countP_append];have a1:(l.take i).countP (fun x=>decide (x.id<id))=(l.take i).length:=List.countP_eq_length.2 fun x hx=>by
  obtain⟨k,hk,rfl⟩:=List.getElem_of_mem hx;rw[List.length_take] at hk;rw[List.getElem_take];exact decide_eq_true (h1 k (by omega) (by omega))
 have a2:(l.drop i).countP (fun x=>decide (x.id<id))=0:=List.countP_eq_zero.2 fun x hx=>by
  obtain⟨k,hk,rfl⟩:=List.getElem_of_mem hx;rw[List.length_drop] at hk;rw[List.getElem_drop];have:=h2 (i+k) (by omega) (by omega);simp only[decide_eq_true_eq];omega
 rw[a1,a2,List.length_take];omega
theorem sE(y:aQ)(id:Int)(w:World)(h1:0≤y.id∧y.id≤1000)(h2:0≤id∧id≤1000):Calls Tryz.prog 143 #[.agg #[.int .i64 y.id,.int .i64 y.bal,.int .i64 y.seq],.int .i64 id] w fun e w'=>e= .returned (.int .i64 (y.id - id))∧Fr none w w':=by
 have hw:IntKind.i64.wrap (y.id - id)=y.id - id:=gY (by omega) (by omega);clear h1 h2;go_enter Tryz.func143,Tryz.ntmps143;go_upto_region 1 with(fail)
 generalize hW:w.alloc _=wb;have F1:Fr none w wb:=hW▸(Fr.refl none w).alloc _;have b1:wb.heap[w.heap.size]?=some (.cells #[.int .i64 y.id,.int .i64 y.bal,.int .i64 y.seq] 59 (0,0)):=by rw[←hW];exact aD _ _
 have c0:wb.cell? ⟨w.heap.size,0,none⟩=some (.int .i64 y.id):=by rw[aA b1];rfl
 clear hW;go_wp2;go_ret;exact⟨rfl,F1⟩
theorem CS(l:List aQ)(A:Option Addr)(c:Nat)(id:Int)(w:World)(h:SlR aP w none (.slice A l.length c) l)(hk:∀x ∈ l,1≤x.id∧x.id≤1000)(hs:l.Pairwise fun a b=>a.id<b.id)(h2:0≤id∧id≤1000)(hl:l.length≤1000):
  Calls Tryz.prog 142 #[.slice A l.length c,.int .i64 id,.func (.func 143) #[] #[]] w fun e w'=>∃b,e= .returned (.tuple #[.int .i64 (jE l id:Int),.bool b])∧Fr none w w':=by
 obtain⟨A',c',hv, -, -,hcc⟩:=aN h;injection hv with hA _ hc
 subst hA hc;have HS:=sH h;have HK:=sH hk;have HSO:=sH hs;have HI2:=sH h2;clear h hk hs h2;by_cases hz:l.length=0
 ·obtain rfl:=List.eq_nil_of_length_eq_zero hz;clear hcc hz;rw[show([]:List aQ).length=0 from rfl];have HX:Hid (((jE [] id:Nat):Int)=0):=by unfold Hid jE;rfl
  go_enter Tryz.func142,Tryz.ntmps142;go_wp2_with fail;go_loopw [9,10] (fun s9 s10 wr=>s9= .int .i64 0∧s10= .int .i64 0∧wr=w) (fun s9 s10 _=>0)
  case atStart=>exact⟨rfl,rfl,rfl⟩
  case round=>
   obtain⟨rfl,rfl,rfl⟩:=hrel;go_wp2;refine bodyPost_ret (v:=.tuple #[.int .i64 0,.bool false]) (by simp[results,Tryz.results142,go_sem]) rfl ?_;exact⟨_,by rw[HX.out],Fr.refl _ _⟩
 obtain⟨bc,off,rfl,hb,_,hcell⟩:=hcc (by omega);go_enter Tryz.func142,Tryz.ntmps142;go_wp2_with fail;go_loopw [9,10] (fun s9 s10 wr=>∃i j:Nat,s9= .int .i64 (i:Int)∧s10= .int .i64 (j:Int)∧i≤j∧j≤l.length∧Hid ((∀k (hk:k<l.length),k<i→l[k].id<id)∧∀k (hk:k<l.length),j≤k→id≤l[k].id)∧Fr none w wr) (fun s9 s10 _=>(intOf s10).toNat - (intOf s9).toNat)
 case atStart=>exact⟨0,l.length,rfl,rfl,Nat.zero_le _,Nat.le_refl _,⟨fun k hk h=>absurd h (by omega),fun k hk h=>absurd h (by omega)⟩,Fr.refl _ _⟩
 case round=>
  obtain⟨i,j,rfl,rfl,hij,hjl,HV,FW⟩:=hrel;obtain⟨wz,hwz⟩:∃wz:World,wz=wr:=⟨_,rfl⟩;subst hwz;by_cases hlt:i<j
  ·have d0:decide ((i:Int)<(j:Int))=true:=decide_eq_true (by omega);have hadd:IntKind.i64.wrap ((i:Int)+(j:Int))=((i+j:Nat):Int):=by rw[show(i:Int)+(j:Int)=((i+j:Nat):Int) by omega];exact gY (by omega) (by omega)
   have hadd2:wrap64 ((i:Int)+(j:Int))=((i+j:Nat):Int):=by rw[show(i:Int)+(j:Int)=((i+j:Nat):Int) by omega];exact fV (by omega) (by omega)
   go_upto_region 5 with(fail)
   obtain⟨m,hm⟩:∃m,m=(i+j)/2:=⟨_,rfl⟩;have hme:((i:Int)+(j:Int))/2=(m:Int):=by omega
   rw[hme];have hmi:i≤m:=by omega
   have hmj:m<j:=by omega
   clear hme hm hadd hadd2 d0;obtain⟨c1,c2,c3⟩:=hcell m (by omega);have c1:=FW.keep c1;have c2:=FW.keep c2;have c3:=FW.keep c3;have HB1:=sH (HK.out l[m] (List.getElem_mem _));have hlo:Hid (l[m].id<id→∀k (hk:k<l.length),k<m+1→l[k].id<id):=fun h k hk hk2=>by
    by_cases he:k=m
    ·subst he;exact h
    have:=List.pairwise_iff_getElem.1 HSO.out k m hk (by omega) (by omega);omega
   have hhi:Hid (id≤l[m].id→∀k (hk:k<l.length),m≤k→id≤l[k].id):=fun h k hk hk2=>by
    by_cases he:k=m
    ·subst he;exact h
    have:=List.pairwise_iff_getElem.1 HSO.out m k (by omega) hk (by omega);omega
   generalize l[m]=x at*
   have q1:(m:Int)<(l.length:Int):=by omega
   have q2:(0:Int)≤(m:Int):=by omega
   go_wp2_with fail;refine(sE x id wz (by have:=HB1.out;omega) HI2.out).mono ?_;rintro e w3 ⟨rfl,F3⟩;clear c1 c2 c3;have FW:=FW.pure F3;by_cases hd:x.id - id<0
   ·have hq:decide (x.id - id<0)=true:=decide_eq_true hd;have hH:=sH (hlo.out (by omega));have hwm:IntKind.i64.wrap ((m:Int)+1)=(m:Int)+1:=gY (by omega) (by omega);have hwm2:wrap64 ((m:Int)+1)=(m:Int)+1:=fV (by omega) (by omega);clear hd;go_wp2_with fail;go_roundw
    case rel=>exact⟨m+1,j,by go_num,rfl,by omega,hjl,⟨hH.out,HV.out.2⟩,FW⟩
    case measure=>simp[intOf]<;>omega
   have hq:decide (x.id - id<0)=false:=decide_eq_false hd;have hH:=sH (hhi.out (by omega));clear hd;go_wp2_with fail;go_roundw
   case rel=>exact⟨i,m,rfl,rfl,by omega,by omega,⟨HV.out.1,hH.out⟩,FW⟩
   case measure=>simp[intOf]<;>omega
  obtain rfl:i=j:=by omega
  have hpos:jE l id=i:=EH hjl HV.out.1 HV.out.2;have HX:Hid ((jE l id:Int)=(i:Int)):=by unfold Hid;rw[hpos]
  have d0:decide ((i:Int)<(i:Int))=false:=decide_eq_false (by omega);clear hpos;by_cases hin:i<l.length
  ·obtain⟨c1,c2,c3⟩:=hcell i hin;have c1:=FW.keep c1;have c2:=FW.keep c2;have c3:=FW.keep c3;have HB1:=sH (HK.out l[i] (List.getElem_mem _));generalize l[i]=x at*
   have q1:(i:Int)<(l.length:Int):=by omega
   have d1:decide ((i:Int)<(l.length:Int))=true:=decide_eq_true (by omega);go_wp2_with fail;refine(sE x id wz (by have:=HB1.out;omega) HI2.out).mono ?_;rintro e w3 ⟨rfl,F3⟩;clear c1 c2 c3;go_wp2;refine bodyPost_ret (v:=.tuple #[.int .i64 (i:Int),.bool (x.id - id == 0)]) (by simp[results,Tryz.results142,go_sem]) rfl ?_;exact⟨_,by rw[HX.out],FW.pure F3⟩
  have d1:decide ((i:Int)<(l.length:Int))=false:=decide_eq_false (by omega);go_wp2;refine bodyPost_ret (v:=.tuple #[.int .i64 (i:Int),.bool false]) (by simp[results,Tryz.results142,go_sem]) rfl ?_;exact⟨_,by rw[HX.out],FW⟩
theorem CT(l:List aQ)(v:Value)(id bal:Int)(w:World)(h:SlR aP w none v l):Calls Tryz.prog 110 #[v,.int .i64 id,.int .i64 bal] w (NwE aP (qD l id bal) w):=by
 obtain⟨V,hV⟩:∃V,V=qD l id bal:=⟨_,rfl⟩;rw[←hV];unfold qD at hV;have HV:=sH hV;clear hV;obtain⟨A,c,rfl, -, -, -⟩:=aN h;have HS:=sH h;clear h;go_enter Tryz.func110,Tryz.ntmps110;go_wp2_with fail;refine(vU l _ w HS.out).mono ?_;rintro e w1 ⟨rfl,FA⟩;obtain⟨C,hC⟩:∃C,C=cC l:=⟨_,rfl⟩;have HCC:=sH hC;rw[←hC] at HV ⊢;clear hC;by_cases h0:C=0
 ·subst h0;replace HV:=sH (HV.out.trans (if_neg (by simp)));have hr:rgt 0=0:=rfl;rw[hr];clear hr;go_wp2_with fail;refine(yV id w1).mono ?_;rintro e w2 ⟨rfl,hww⟩;subst hww;obtain⟨v1,hv1⟩:∃v,v=inR id 1 1000:=⟨_,rfl⟩;have HV1:=sH hv1;rw[←hv1] at HV ⊢;clear hv1;cases v1 with
  |false=>
   have HX:=sH (HV.out.trans (if_pos (.inl rfl)));go_wp2_with fail;go_ret2;exact⟨.slice none 0 0,by rw[HX.out]<;>rfl,by rw[HX.out];exact SlD.nil _ _ _,FA⟩
  |true=>
   go_wp2_with fail;refine(mD l _ id _ (HS.out.fr FA)).mono ?_;rintro e w3 ⟨rfl,F3⟩;have FA:=FA.pure F3;clear F3;obtain⟨P,hP⟩:∃P,P=tL l id:=⟨_,rfl⟩;rw[←hP] at HV ⊢;clear hP;by_cases hp:0≤P
   ·have HX:=sH (HV.out.trans (if_pos (.inr hp)));have hd:decide (0≤P)=true:=decide_eq_true hp;clear hp;go_wp2_with fail;go_ret2;exact⟨.slice none 0 0,by rw[HX.out]<;>rfl,by rw[HX.out];exact SlD.nil _ _ _,FA⟩
   replace HV:=sH (HV.out.trans (if_neg (by simp[hp])));have hd:decide (0≤P)=false:=decide_eq_false hp;clear hp;go_wp2_with fail;refine(cJ bal _).mono ?_;rintro e w4 ⟨rfl,hww⟩;subst hww;clear hd;obtain⟨v2,hv2⟩:∃v,v=aX bal:=⟨_,rfl⟩;rw[←hv2] at HV ⊢;clear hv2;cases v2 with
   |false=>
    have HX:=sH (HV.out.trans (if_pos rfl));go_wp2_with fail;go_ret2;exact⟨.slice none 0 0,by rw[HX.out]<;>rfl,by rw[HX.out];exact SlD.nil _ _ _,FA⟩
   |true=>
    replace HV:=sH (HV.out.trans (if_neg (by simp)));by_cases h20:l.length=20
    ·have HX:=sH (HV.out.trans (if_pos h20));have hd:((l.length:Int) == 20)=true:=by rw[beq_iff_eq];omega
     clear h20;go_wp2_with fail;go_ret2;exact⟨.slice none 0 0,by rw[HX.out]<;>rfl,by rw[HX.out];exact SlD.nil _ _ _,FA⟩
    have HX:=sH (HV.out.trans (if_neg h20));have hd:((l.length:Int) == 20)=false:=by rw[beq_eq_false_iff_ne];omega
    obtain⟨y1,y2,y3⟩:=bI.1 HCC.out.symm;have hid:1≤id∧id≤1000:=by
     have:=HV1.out;unfold inR at this;simpa using this.symm
    have HID:=sH hid;have HY2:Hid (∀x ∈ l,1≤x.id∧x.id≤1000):=fun x hx=>(cQ.1 (y2 x hx)).1;have HY3:=sH y3;clear h20 y2 y3 hid;go_wp2_with fail;refine(CS l A c id _ (HS.out.fr FA) HY2.out HY3.out (by have:=HID.out;omega) (by omega)).mono ?_;rintro e w5 ⟨fb,rfl,F5⟩;have FA:=FA.pure F5;clear F5 hd;have hps:jE l id≤l.length:=List.countP_le_length;generalize jE l id=P at*
    go_wp2_with fail;refine(mV l _ w5 (HS.out.fr FA) (by omega)).mono ?_;rintro e w6 ⟨A4,c4,rfl,own,F6⟩;have HSZ:Hid (w.heap.size≤w5.heap.size):=FA.size;have FA:=FA.pure F6;have h56:w5.heap.size≤w6.heap.size:=F6.size;have OW:=sH own;clear own F6;go_wp2_with fail;refine(AH l ⟨id,bal,0⟩ A4 c4 P w6.heap.size w5.heap.size _ (by omega) (by omega) (Nat.le_trans (show w5.heap.size≤w6.heap.size+1 by omega) (Nat.le_of_eq (Array.size_push _).symm)) (aR OW.out ((Fr.refl none w6).alloc _) (by simp)) (aD _ _) (fun e=>by have:=bR OW.out e;omega)).mono ?_;rintro e w8 ⟨A8,c8,rfl,ow8,F8⟩;have FA:=(FA.alloc _).own F8 (fun x hx=>by have:=bR OW.out hx;have:=HSZ.out;omega);have OW8:=sH ow8;clear ow8 F8;go_wp2_with fail;go_ret2;exact⟨.slice A8 (l.length+1) c8,by rw[HX.out];rfl,by rw[HX.out];exact(SlD.own_dn OW8.out).keep (dH HSZ.out),FA⟩
 have HX:=sH (HV.out.trans (if_pos h0));have hr:rgt C=74:=by unfold rgt;rw[if_neg h0]
 rw[hr];clear hr h0;go_wp2_with fail;go_ret2;exact⟨.slice none 0 0,by rw[HX.out]<;>rfl,by rw[HX.out];exact SlD.nil _ _ _,FA⟩
def NwW(g:Lgr)(va vl vo:Value)(r:Lgr × Int)(w:World)(e:Ending)(w':World):Prop:=∃Aa na ca Al nl cl Ao no co,e= .returned (.tuple #[.agg #[.int .i64 r.1.num,.slice Aa na ca,.slice Al nl cl,.slice Ao no co,.int .i64 r.1.nid,.int .i64 r.1.fees,.int .u64 (r.1.link:Int)],.int .i64 r.2])∧(r.2=0→∀q,LgS w q g va vl vo→(∀k,q=some k→k<w.heap.size)→LgS w' q r.1 (.slice Aa na ca) (.slice Al nl cl) (.slice Ao no co))∧Fr none w w'
def WkB(w:World)(b:Nat)(g:Lgr)(va vl vo:Value)(src:Int):Prop:=w.heap[b]?=some (.cells #[.int .i64 g.num,va,vl,vo,.int .i64 g.nid,.int .i64 g.fees,.int .u64 (g.link:Int),.int .i64 src] 92 (0,0))
theorem WkB.fr{w w':World}{b:Nat}{g:Lgr}{va vl vo:Value}{src:Int}{r:Option Nat}(h:WkB w b g va vl vo src)(f:Fr r w w')(hr:r≠some b:=by simp):WkB w' b g va vl vo src:=aF h f hr
theorem WkB.cells{w:World}{b:Nat}{g:Lgr}{va vl vo:Value}{src:Int}(h:WkB w b g va vl vo src):w.cell? ⟨b,0,none⟩=some (.int .i64 g.num)∧w.cell? ⟨b,1,none⟩=some va∧w.cell? ⟨b,2,none⟩=some vl∧w.cell? ⟨b,3,none⟩=some vo∧w.cell? ⟨b,4,none⟩=some (.int .i64 g.nid)∧w.cell? ⟨b,5,none⟩=some (.int .i64 g.fees)∧w.cell? ⟨b,6,none⟩=some (.int .u64 (g.link:Int))∧w.cell? ⟨b,7,none⟩=some (.int .i64 src):=by
 refine⟨?_,?_,?_,?_,?_,?_,?_,?_⟩<;>(rw[aA h];rfl)
theorem WkB.set1{w:World}{b:Nat}{g:Lgr}{va vl vo:Value}{src:Int}(h:WkB w b g va vl vo src)(v:Value):WkB (w.setCell ⟨b,1,none⟩ v) b g v vl vo src:=by
 unfold WkB at h ⊢;have h2:=aI h 1 v;simp only[List.setIfInBounds_toArray,List.set_cons_zero,List.set_cons_succ] at h2;exact h2
theorem WkB.set2{w:World}{b:Nat}{g:Lgr}{va vl vo:Value}{src:Int}(h:WkB w b g va vl vo src)(v:Value):WkB (w.setCell ⟨b,2,none⟩ v) b g va v vo src:=by
 unfold WkB at h ⊢;have h2:=aI h 2 v;simp only[List.setIfInBounds_toArray,List.set_cons_zero,List.set_cons_succ] at h2;exact h2
theorem SlD.nn{α:Type}{R:Rec α}{w:World}{B:Nat}{v:Value}{l:List α}{r:Option Nat}(h:SlD w (Dn B w) R.sz v (flR R l))(ok:∀x ∈ l,R.ok x)(hr:∀k,r=some k→k<B):SlR R w r v l:=⟨h.keep (qL hr),ok⟩
theorem CV{l:List aQ}(h:cC l=0):∀x ∈ l,aP.ok x:=fun x hx=>by
 have:=cQ.1 ((bI.1 h).2.1 x hx);exact⟨⟨by omega,by omega⟩,⟨by omega,by omega⟩,by omega,by omega⟩
theorem Ig{p:Prop}(h:p:=by
 have hrb:=hrb.fr F4;have HS:=sH (HS.out.keep (nD F4 (fun y e=>by injection e with e;have:=HB1.out;omega)));have FA:=FA.own F4 (fun y e=>by injection e with e;omega);clear F4 hwk hop;have hwk:=hwk4;clear hwk4;obtain⟨k0,k1,k2,k3,k4,k5,k6,k7⟩:=hwk.cells;obtain⟨m0,m1,m2,m3,m4,m5,m6,y0,y1,y2,y3,y4,y5,y6,ml⟩:=LgB.zc hrb;go_wp2;refine bodyPost_ret (v:=.tuple #[.agg #[.int .i64 g.num,(.slice Ar nr cr),(.slice A2 g.lines.length c2),.slice A3 g.offers.length c3,.int .i64 g.nid,.int .i64 g.fees,.int .u64 (g.link:Int)],.int .i64 V.2]) (by simp[results,Tryz.results77,go_sem,m0,m1,m2,m3,m4,m5,m6]) rfl ?_;have F9:=(aW (g:={g with accs:=V.1}) (va:=(.slice Ar nr cr)) (vl:=(.slice A2 g.lines.length c2)) (vo:=.slice A3 g.offers.length c3) hrb).1;exact⟨Ar,nr,cr,_,_,_,_,_,_,rfl,fun h0 q hq hqw=>⟨SlD.nn (HS.out.keep (nD F9 (fun y e=>by injection e with e;have:=HB1.out;omega))) (HOKV.out h0).1 (fun k hk=>by have:=hqw k hk;have:=HB1.out;omega),(hq.2.1.fr (FA.own F9).mono),(hq.2.2.1.fr (FA.own F9).mono),HG.out.2.2.2⟩,FA.own F9⟩):p:=h
theorem CW(g:Lgr)(va vl vo:Value)(src:Int)(x:OpX)(w:World)(h:LgS w none g va vl vo)(hp:OpD w none x)(hk:aH g=0):Calls Tryz.prog 77 #[.agg #[.int .i64 g.num,va,vl,vo,.int .i64 g.nid,.int .i64 g.fees,.int .u64 (g.link:Int),.int .i64 src],opV x.o x.v] w (NwW g va vl vo ({g with accs:=(jP g src x.o).1},(jP g src x.o).2) w):=by
 obtain⟨V,hV⟩:∃V,V=jP g src x.o:=⟨_,rfl⟩;have HOKV:Hid (V.2=0→kG {g with accs:=V.1}):=fun h0=>by rw[hV] at h0 ⊢;exact jG (Cg hk h0).1 h.ok.2.2.2.2.2.2
 rw[←hV];unfold jP at hV;have HV:=sH hV;clear hV hk;obtain⟨A1,c1,rfl, -, -, -⟩:=aN h.1;obtain⟨A2,c2,rfl, -, -, -⟩:=aU h.2.1;obtain⟨A3,c3,rfl, -, -, -⟩:=bA h.2.2.1;have HG:=sH h;have HP:=sH hp;clear h hp;unfold opV opL OpX.v;go_enter Tryz.func77,Tryz.ntmps77;go_upto_region 1 with(fail)
 generalize hW:((w.alloc _).alloc _).alloc _=w1;obtain⟨FA,hwk,hop,hrb⟩:Fr none w w1∧WkB w1 w.heap.size g (.slice A1 g.accs.length c1) (.slice A2 g.lines.length c2) (.slice A3 g.offers.length c3) src∧OpB w1 (w.heap.size+1) x.o x.v∧LgB w1 (w.heap.size+2) lg0 (.slice none 0 0) (.slice none 0 0) (.slice none 0 0):=by rw[←hW];exact eS w _ _ _
 clear hW;obtain⟨k0,k1,k2,k3,k4,k5,k6,k7⟩:=hwk.cells;obtain⟨o0,o1,o2,o3,o4,o5,o6,o7,o8,o9,o10,o11⟩:=hop.cells;go_wp2_with fail;refine(AG g.accs _ src x.o.amt w1 (HG.out.fr FA).1).mono ?_;rintro e w2 ⟨v2,rfl,S2,F2⟩;have HB1:Hid (w.heap.size+2<w1.heap.size):=aC hrb;clear k0 k1 k2 k3 k4 k5 k6 k7 o0 o1 o2 o3 o4 o5 o6 o7 o8 o9 o10 o11;have HACC:Hid ((eW (eD x.o.amt) g.accs src).2=0→∀y ∈ (eW (eD x.o.amt) g.accs src).1,aP.ok y):=fun h0=>CV (tP h0).1;generalize eW (eD x.o.amt) g.accs src=T at*
 obtain⟨tl,te⟩:=T;dsimp only at HV S2 HACC ⊢;have hs2:=S2;obtain⟨Ar,nr,cr,rfl, -, -, -, -⟩:=hs2;have HS:=sH S2;clear S2;have FA:=FA.pure F2;have hwk:=hwk.fr F2;have hop:=hop.fr F2;have hrb:=hrb.fr F2;clear F2;by_cases ht:te=0
 ·subst ht;replace HV:=sH (HV.out.trans (if_pos rfl));replace HACC:=sH (HACC.out rfl);obtain⟨k0,k1,k2,k3,k4,k5,k6,k7⟩:=hwk.cells;obtain⟨o0,o1,o2,o3,o4,o5,o6,o7,o8,o9,o10,o11⟩:=hop.cells;go_wp2_with fail;refine(CT tl _ x.o.to_ x.o.amt w2 (SlD.nn HS.out HACC.out (by simp))).mono ?_;rintro e w3 ⟨v3,rfl,S3,F3⟩;rw[←HV.out] at S3 ⊢;have hs3:=S3;obtain⟨Ar,nr,cr,rfl, -, -, -, -⟩:=hs3;have HB1:Hid (w.heap.size+2<w2.heap.size):=aC hrb;clear HS;have HS:=sH S3;clear S3;clear k0 k1 k2 k3 k4 k5 k6 k7 o0 o1 o2 o3 o4 o5 o6 o7 o8 o9 o10 o11;have FA:=FA.pure F3;have hwk:=hwk.fr F3;have hop:=hop.fr F3;have hrb:=hrb.fr F3;clear F3;have kw:=aC hwk;have zw:=aB hwk 1;obtain⟨k0,k1,k2,k3,k4,k5,k6,k7⟩:=hwk.cells;obtain⟨o0,o1,o2,o3,o4,o5,o6,o7,o8,o9,o10,o11⟩:=hop.cells;have F4:=Fr.set1 w3 ⟨w.heap.size,1,none⟩ (.slice Ar nr cr);have hwk4:=hwk.set1 (.slice Ar nr cr);go_upto_region 5 with(fail)
  clear k0 k1 k2 k3 k4 k5 k6 k7 o0 o1 o2 o3 o4 o5 o6 o7 o8 o9 o10 o11;clear kw zw;generalize World.setCell w3 _ _=w9 at*
  have F4:Fr (some w.heap.size) w3 w9:=F4;exact Ig
 replace HV:=sH (HV.out.trans (if_neg ht));have hq:(te == 0)=false:=by simp[ht]
 have hte:te=V.2:=by rw[HV.out]
 have htl:tl=V.1:=by rw[HV.out]
 subst hte htl;clear ht;have kw:=aC hwk;have zw:=aB hwk 1;obtain⟨k0,k1,k2,k3,k4,k5,k6,k7⟩:=hwk.cells;obtain⟨o0,o1,o2,o3,o4,o5,o6,o7,o8,o9,o10,o11⟩:=hop.cells;have F4:=Fr.set1 w2 ⟨w.heap.size,1,none⟩ (.slice Ar nr cr);have hwk4:=hwk.set1 (.slice Ar nr cr);go_upto_region 5 with(fail)
 clear k0 k1 k2 k3 k4 k5 k6 k7 o0 o1 o2 o3 o4 o5 o6 o7 o8 o9 o10 o11;clear kw zw;generalize World.setCell w2 _ _=w9 at*
 have F4:Fr (some w.heap.size) w2 w9:=F4;exact Ig
theorem CX(g:Lgr)(va vl vo:Value)(src:Int)(x:OpX)(w:World)(h:LgS w none g va vl vo)(hp:OpD w none x)(hk:aH g=0)(ha:(aK g.accs src).isSome=true):Calls Tryz.prog 79 #[.agg #[.int .i64 g.num,va,vl,vo,.int .i64 g.nid,.int .i64 g.fees,.int .u64 (g.link:Int),.int .i64 src],opV x.o x.v] w (NwW g va vl vo ({g with lines:=(lmt g.lines src x.o.ast x.o.amt).1},(lmt g.lines src x.o.ast x.o.amt).2) w):=by
 have HOKV:Hid ((lmt g.lines src x.o.ast x.o.amt).2=0→kG {g with lines:=(lmt g.lines src x.o.ast x.o.amt).1}):=fun h0=>jG (Ci hk ha h0) h.ok.2.2.2.2.2.2;have HLN:Hid (g.lines.length≤60):=(bJ.1 (aS.1 hk).1).2.1;clear hk ha;obtain⟨A1,c1,rfl, -, -, -⟩:=aN h.1;obtain⟨A2,c2,rfl, -, -, -⟩:=aU h.2.1;obtain⟨A3,c3,rfl, -, -, -⟩:=bA h.2.2.1;have HG:=sH h;have HP:=sH hp;clear h hp;unfold opV opL OpX.v;go_enter Tryz.func79,Tryz.ntmps79;go_upto_region 1 with(fail)
 generalize hW:((w.alloc _).alloc _).alloc _=w1;obtain⟨FA,hwk,hop,hrb⟩:Fr none w w1∧WkB w1 w.heap.size g (.slice A1 g.accs.length c1) (.slice A2 g.lines.length c2) (.slice A3 g.offers.length c3) src∧OpB w1 (w.heap.size+1) x.o x.v∧LgB w1 (w.heap.size+2) lg0 (.slice none 0 0) (.slice none 0 0) (.slice none 0 0):=by rw[←hW];exact eS w _ _ _
 clear hW;obtain⟨k0,k1,k2,k3,k4,k5,k6,k7⟩:=hwk.cells;obtain⟨o0,o1,o2,o3,o4,o5,o6,o7,o8,o9,o10,o11⟩:=hop.cells;go_wp2_with fail;refine(Ct g.lines _ src x.o.ast x.o.amt w1 (HG.out.fr FA).2.1 HLN.out).mono ?_;rintro e w2 ⟨v2,rfl,S2,F2⟩;have HB1:Hid (w.heap.size+2<w1.heap.size):=aC hrb;clear k0 k1 k2 k3 k4 k5 k6 k7 o0 o1 o2 o3 o4 o5 o6 o7 o8 o9 o10 o11;generalize lmt g.lines src x.o.ast x.o.amt=V at*
 have hs2:=S2;obtain⟨Ar,nr,cr,rfl, -, -, -, -⟩:=hs2;have HS:=sH S2;clear S2;have FA:=FA.pure F2;have hwk:=hwk.fr F2;have hop:=hop.fr F2;have hrb:=hrb.fr F2;clear F2;have kw:=aC hwk;have zw:=aB hwk 2;obtain⟨k0,k1,k2,k3,k4,k5,k6,k7⟩:=hwk.cells;obtain⟨o0,o1,o2,o3,o4,o5,o6,o7,o8,o9,o10,o11⟩:=hop.cells;have F4:=Fr.set1 w2 ⟨w.heap.size,2,none⟩ (.slice Ar nr cr);have hwk4:=hwk.set2 (.slice Ar nr cr);go_upto_region 3 with(fail)
 clear k0 k1 k2 k3 k4 k5 k6 k7 o0 o1 o2 o3 o4 o5 o6 o7 o8 o9 o10 o11;clear kw zw;generalize World.setCell w2 _ _=w9 at*
 have F4:Fr (some w.heap.size) w2 w9:=F4;have hrb:=hrb.fr F4;have HS:=sH (HS.out.keep (nD F4 (fun y e=>by injection e with e;have:=HB1.out;omega)));have FA:=FA.own F4 (fun y e=>by injection e with e;omega);clear F4 hwk hop;have hwk:=hwk4;clear hwk4;obtain⟨k0,k1,k2,k3,k4,k5,k6,k7⟩:=hwk.cells;obtain⟨m0,m1,m2,m3,m4,m5,m6,y0,y1,y2,y3,y4,y5,y6,ml⟩:=LgB.zc hrb;go_wp2;refine bodyPost_ret (v:=.tuple #[.agg #[.int .i64 g.num,(.slice A1 g.accs.length c1),(.slice Ar nr cr),.slice A3 g.offers.length c3,.int .i64 g.nid,.int .i64 g.fees,.int .u64 (g.link:Int)],.int .i64 V.2]) (by simp[results,Tryz.results79,go_sem,m0,m1,m2,m3,m4,m5,m6]) rfl ?_;have F9:=(aW (g:={g with lines:=V.1}) (va:=(.slice A1 g.accs.length c1)) (vl:=(.slice Ar nr cr)) (vo:=.slice A3 g.offers.length c3) hrb).1;exact⟨_,_,_,Ar,nr,cr,_,_,_,rfl,fun h0 q hq hqw=>⟨(hq.1.fr (FA.own F9).mono),SlD.nn (HS.out.keep (nD F9 (fun y e=>by injection e with e;have:=HB1.out;omega))) (HOKV.out h0).2.1 (fun k hk=>by have:=hqw k hk;have:=HB1.out;omega),(hq.2.2.1.fr (FA.own F9).mono),HG.out.2.2.2⟩,FA.own F9⟩
theorem IC{g:Lgr}{src:Int}{o:Opr}(h:o.kind=1):wrk g src o=({g with accs:=(jP g src o).1},(jP g src o).2):=by unfold wrk;rw[if_pos h]
theorem ID{g:Lgr}{src:Int}{o:Opr}(h:o.kind=2):wrk g src o=pay g src o.to_ o.ast o.amt:=by unfold wrk;rw[if_neg (by omega),if_pos h]
theorem IE{g:Lgr}{src:Int}{o:Opr}(h:o.kind=3):wrk g src o=({g with lines:=(lmt g.lines src o.ast o.amt).1},(lmt g.lines src o.ast o.amt).2):=by unfold wrk;rw[if_neg (by omega),if_neg (by omega),if_pos h]
theorem IG{g:Lgr}{src:Int}{o:Opr}(h:o.kind=4):wrk g src o=((iT g src o.ast o.oth o.amt o.num o.den).1.1,(iT g src o.ast o.oth o.amt o.num o.den).2):=by unfold wrk;rw[if_neg (by omega),if_neg (by omega),if_neg (by omega),if_pos h]
theorem IH{g:Lgr}{src:Int}{o:Opr}(h:o.kind=5):wrk g src o=cnl g src o.id:=by unfold wrk;rw[if_neg (by omega),if_neg (by omega),if_neg (by omega),if_neg (by omega),if_pos h]
theorem II{g:Lgr}{src:Int}{o:Opr}(h1:¬o.kind=1)(h2:¬o.kind=2)(h3:¬o.kind=3)(h4:¬o.kind=4)(h5:¬o.kind=5):wrk g src o=((jO g src o.to_ o.oth o.ast o.path o.amt o.lim).1.1,(jO g src o.to_ o.oth o.ast o.path o.amt o.lim).2):=by unfold wrk;rw[if_neg h1,if_neg h2,if_neg h3,if_neg h4,if_neg h5]
theorem Ih{p:Prop}(h:p:=by
 rintro e w2 ⟨Aa,na,ca,Al,nl,cl,Ao,no,co,rfl,HL,F2⟩;clear k0 k1 k2 k3 k4 k5 k6 k7 o0 o1 o2 o3 o4 o5 o6 o7 o8 o9 o10 o11;rw[←HV.out] at HL ⊢;have HL:=sH HL;have HF2:=sH F2;have HF1:=sH FA;have HBL:Hid (w.heap.size+2<w1.heap.size):=aC hrb;have FA:=FA.pure F2;have hwk:=hwk.fr F2;have hop:=hop.fr F2;have hrb:=hrb.fr F2;clear F2;obtain⟨m0,m1,m2,m3,m4,m5,m6,y0,y1,y2,y3,y4,y5,y6,ml⟩:=LgB.zc hrb;go_wp2;refine bodyPost_ret (v:=.tuple #[.agg #[.int .i64 (V.1).num,.slice Aa na ca,.slice Al nl cl,.slice Ao no co,.int .i64 (V.1).nid,.int .i64 (V.1).fees,.int .u64 ((V.1).link:Int)],.int .i64 V.2]) (by simp[results,Tryz.results42,go_sem,m0,m1,m2,m3,m4,m5,m6]) rfl ?_;have F9:=(aW (g:=V.1) (va:=.slice Aa na ca) (vl:=.slice Al nl cl) (vo:=.slice Ao no co) hrb).1;exact⟨_,_,_,_,_,_,_,_,_,rfl,fun h0 q hq hqw=>(HL.out h0 (some (w.heap.size+2)) (HG.out.fresh HF1.out (by omega)) (fun k hk=>by injection hk with hk;have:=HBL.out;omega)).both (HL.out h0 q (hq.fr HF1.out.mono) (fun k hk=>by have:=hqw k hk;have:=HBL.out;omega)) F9,FA.own F9⟩):p:=h
theorem tw8{p:Prop}(h:p:=by
 rintro e w2 ⟨va',vl',vo',rfl,og,F2⟩;clear k0 k1 k2 k3 k4 k5 k6 k7 o0 o1 o2 o3 o4 o5 o6 o7 o8 o9 o10 o11;rw[←HV.out] at og ⊢;obtain⟨A4,c4,rfl⟩:=aO og.a;obtain⟨A5,c5,rfl⟩:=aO og.l;obtain⟨A6,c6,rfl⟩:=aO og.o;have HL:V.2=0→∀q,LgS w1 q g (.slice A1 g.accs.length c1) (.slice A2 g.lines.length c2) (.slice A3 g.offers.length c3)→(∀k,q=some k→k<w1.heap.size)→LgS w2 q V.1 (.slice A4 V.1.accs.length c4) (.slice A5 V.1.lines.length c5) (.slice A6 V.1.offers.length c6):=fun h0 q _ hq=>og.lgsr (HOKV.out h0) hq;clear og;have HL:=sH HL;have HF2:=sH F2;have HF1:=sH FA;have HBL:Hid (w.heap.size+2<w1.heap.size):=aC hrb;have FA:=FA.pure F2;have hwk:=hwk.fr F2;have hop:=hop.fr F2;have hrb:=hrb.fr F2;clear F2;obtain⟨m0,m1,m2,m3,m4,m5,m6,y0,y1,y2,y3,y4,y5,y6,ml⟩:=LgB.zc hrb;go_wp2;refine bodyPost_ret (v:=.tuple #[.agg #[.int .i64 (V.1).num,.slice A4 V.1.accs.length c4,.slice A5 V.1.lines.length c5,.slice A6 V.1.offers.length c6,.int .i64 (V.1).nid,.int .i64 (V.1).fees,.int .u64 ((V.1).link:Int)],.int .i64 V.2]) (by simp[results,Tryz.results42,go_sem,m0,m1,m2,m3,m4,m5,m6]) rfl ?_;have F9:=(aW (g:=V.1) (va:=.slice A4 V.1.accs.length c4) (vl:=.slice A5 V.1.lines.length c5) (vo:=.slice A6 V.1.offers.length c6) hrb).1;exact⟨_,_,_,_,_,_,_,_,_,rfl,fun h0 q hq hqw=>(HL.out h0 (some (w.heap.size+2)) (HG.out.fresh HF1.out (by omega)) (fun k hk=>by injection hk with hk;have:=HBL.out;omega)).both (HL.out h0 q (hq.fr HF1.out.mono) (fun k hk=>by have:=hqw k hk;have:=HBL.out;omega)) F9,FA.own F9⟩):p:=h
theorem tw7{p:Prop}(h:p:=by
 generalize hW:(((((((w2.setCell ⟨w.heap.size+1+1,0,none⟩ (.int .i64 gd.num)).setCell ⟨w.heap.size+1+1,1,none⟩ (.slice A4 gd.accs.length c4)).setCell ⟨w.heap.size+1+1,2,none⟩ (.slice A5 gd.lines.length c5)).setCell ⟨w.heap.size+1+1,3,none⟩ (.slice A6 gd.offers.length c6)).setCell ⟨w.heap.size+1+1,4,none⟩ (.int .i64 gd.nid)).setCell ⟨w.heap.size+1+1,5,none⟩ (.int .i64 gd.fees)).setCell ⟨w.heap.size+1+1,6,none⟩ (.int .u64 (gd.link:Int)))=w9;obtain⟨F9,hrb9⟩:Fr (some (w.heap.size+2)) w2 w9∧LgB w9 (w.heap.size+2) gd (.slice A4 gd.accs.length c4) (.slice A5 gd.lines.length c5) (.slice A6 gd.offers.length c6):=by rw[←hW];exact aW hrb
 clear hW m0 m1 m2 m3 m4 m5 m6 y0 y1 y2 y3 y4 y5 y6 ml;have F29:=F9;have HF9:=sH F29;clear F29;have FA9:=FA.own F9;clear F9 hrb;have hrb:=hrb9;clear hrb9;obtain⟨m0,m1,m2,m3,m4,m5,m6⟩:=hrb.cells;have y0:=aB hrb 0;have y1:=aB hrb 1;have y2:=aB hrb 2;have y3:=aB hrb 3;have y4:=aB hrb 4;have y5:=aB hrb 5;have y6:=aB hrb 6;have ml:=aC hrb;go_wp2;refine bodyPost_ret (v:=.tuple #[.agg #[.int .i64 gd.num,.slice A4 gd.accs.length c4,.slice A5 gd.lines.length c5,.slice A6 gd.offers.length c6,.int .i64 gd.nid,.int .i64 gd.fees,.int .u64 (gd.link:Int)],.int .i64 ed]) (by simp[results,Tryz.results42,go_sem,m0,m1,m2,m3,m4,m5,m6]) rfl ?_;have F9:=(aW (g:=gd) (va:=.slice A4 gd.accs.length c4) (vl:=.slice A5 gd.lines.length c5) (vo:=.slice A6 gd.offers.length c6) hrb).1;exact⟨_,_,_,_,_,_,_,_,_,rfl,fun h0 q hq hqw=>(HL.out h0 (some (w.heap.size+2)) (HG.out.fresh HF1.out (by omega)) (fun k hk=>by injection hk with hk;have:=HBL.out;omega)).both (HL.out h0 q (hq.fr HF1.out.mono) (fun k hk=>by have:=hqw k hk;have:=HBL.out;omega)) (HF9.out.same F9),FA9.own F9⟩):p:=h
theorem pY(g:Lgr)(va vl vo:Value)(src:Int)(x:OpX)(w:World)(h:LgS w none g va vl vo)(hp:OpD w none x)(hk:aH g=0)(ha:(aK g.accs src).isSome=true)(hpl:x.o.path.length≤1000)(hw:OpW x.o):Calls Tryz.prog 42 #[.agg #[.int .i64 g.num,va,vl,vo,.int .i64 g.nid,.int .i64 g.fees,.int .u64 (g.link:Int),.int .i64 src],opV x.o x.v] w (NwW g va vl vo (wrk g src x.o) w):=by
 have HOKV:Hid ((wrk g src x.o).2=0→kG (wrk g src x.o).1):=fun h0=>by
  obtain⟨h1,h2⟩:=Cj hk ha h0;exact jG h1 (by rw[h2.2.2.1];exact h.ok.2.2.2.2.2.2)
 have HK:=sH hk;have HA:=sH ha;have HPL:=sH hpl;have HWO:=sH hw;clear hk ha hpl hw;obtain⟨V,hV⟩:∃V,V=wrk g src x.o:=⟨_,rfl⟩;rw[←hV] at HOKV ⊢;have HV:=sH hV;clear hV;obtain⟨A1,c1,rfl, -, -, -⟩:=aN h.1;obtain⟨A2,c2,rfl, -, -, -⟩:=aU h.2.1;obtain⟨A3,c3,rfl, -, -, -⟩:=bA h.2.2.1;have HG:=sH h;have HP:=sH hp;clear h hp;unfold opV opL OpX.v;go_enter Tryz.func42,Tryz.ntmps42;go_upto_region 1 with(fail)
 generalize hW:((w.alloc _).alloc _).alloc _=w1;obtain⟨FA,hwk,hop,hrb⟩:Fr none w w1∧WkB w1 w.heap.size g (.slice A1 g.accs.length c1) (.slice A2 g.lines.length c2) (.slice A3 g.offers.length c3) src∧OpB w1 (w.heap.size+1) x.o x.v∧LgB w1 (w.heap.size+2) lg0 (.slice none 0 0) (.slice none 0 0) (.slice none 0 0):=by rw[←hW];exact eS w _ _ _
 clear hW;obtain⟨k0,k1,k2,k3,k4,k5,k6,k7⟩:=hwk.cells;obtain⟨o0,o1,o2,o3,o4,o5,o6,o7,o8,o9,o10,o11⟩:=hop.cells;by_cases h1:x.o.kind=1
 ·replace HV:=sH (HV.out.trans (IC h1));have d1:(x.o.kind == 1)=true:=by simp[h1]
  have HP1:=sH (HP.out.fr FA);clear h1;go_wp2_with fail;refine(CW g _ _ _ src x w1 (HG.out.fr FA) HP1.out HK.out).mono ?_;exact Ih
 have d1:(x.o.kind == 1)=false:=by simp[h1]
 by_cases h2:x.o.kind=2
 ·replace HV:=sH (HV.out.trans (ID h2));have d2:(x.o.kind == 2)=true:=by simp[h2]
  clear h1 h2;go_wp2_with fail;refine(CE g _ _ _ src x.o.to_ x.o.ast x.o.amt w1 (HG.out.fr FA)).mono ?_;exact tw8
 have d2:(x.o.kind == 2)=false:=by simp[h2]
 by_cases h3:x.o.kind=3
 ·replace HV:=sH (HV.out.trans (IE h3));have d3:(x.o.kind == 3)=true:=by simp[h3]
  have HP1:=sH (HP.out.fr FA);clear h1 h2 h3;go_wp2_with fail;refine(CX g _ _ _ src x w1 (HG.out.fr FA) HP1.out HK.out HA.out).mono ?_;exact Ih
 have d3:(x.o.kind == 3)=false:=by simp[h3]
 by_cases h4:x.o.kind=4
 ·replace HV:=sH (HV.out.trans (IG h4));have d4:(x.o.kind == 4)=true:=by simp[h4]
  clear h1 h2 h3 h4;go_wp2_with fail;refine(AW g _ _ _ src x.o.ast x.o.oth x.o.amt x.o.num x.o.den w1 (HG.out.fr FA)).mono ?_;rintro e w2 ⟨va',vl',vo',rfl,og,F2⟩;clear k0 k1 k2 k3 k4 k5 k6 k7 o0 o1 o2 o3 o4 o5 o6 o7 o8 o9 o10 o11;generalize iT g src x.o.ast x.o.oth x.o.amt x.o.num x.o.den=D at*
  obtain⟨⟨gd,nd⟩,ed⟩:=D;obtain rfl:V=(gd,ed):=HV.out;obtain⟨A4,c4,rfl⟩:=aO og.a;obtain⟨A5,c5,rfl⟩:=aO og.l;obtain⟨A6,c6,rfl⟩:=aO og.o;have HL:ed=0→∀q,LgS w1 q g (.slice A1 g.accs.length c1) (.slice A2 g.lines.length c2) (.slice A3 g.offers.length c3)→(∀k,q=some k→k<w1.heap.size)→LgS w2 q gd (.slice A4 gd.accs.length c4) (.slice A5 gd.lines.length c5) (.slice A6 gd.offers.length c6):=fun h0 q _ hq=>og.lgsr (HOKV.out h0) hq;clear og;have HL:=sH HL;have HF2:=sH F2;have HF1:=sH FA;have HBL:Hid (w.heap.size+2<w1.heap.size):=aC hrb;have FA:=FA.pure F2;have hwk:=hwk.fr F2;have hop:=hop.fr F2;have hrb:=hrb.fr F2;clear F2;obtain⟨m0,m1,m2,m3,m4,m5,m6,y0,y1,y2,y3,y4,y5,y6,ml⟩:=LgB.zc hrb;go_upto_region 10 with(fail)
  exact tw7
 have d4:(x.o.kind == 4)=false:=by simp[h4]
 by_cases h5:x.o.kind=5
 ·replace HV:=sH (HV.out.trans (IH h5));have d5:(x.o.kind == 5)=true:=by simp[h5]
  clear h1 h2 h3 h4 h5;go_wp2_with fail;refine(Cv g _ _ _ src x.o.id w1 (HG.out.fr FA)).mono ?_;exact tw8
 have d5:(x.o.kind == 5)=false:=by simp[h5]
 replace HV:=sH (HV.out.trans (II h1 h2 h3 h4 h5));have HP1:=sH (HP.out.fr FA);clear h1 h2 h3 h4 h5;unfold OpX.v at o11;go_wp2_with fail;refine(CP g _ _ _ _ src x.o.to_ x.o.oth x.o.ast x.o.path x.o.amt x.o.lim w1 (HG.out.fr FA) HP1.out HPL.out HWO.out.2.2.2.2.2.1 HWO.out.2.2.2.2.1).mono ?_;rintro e w2 ⟨va',vl',vo',rfl,og,F2⟩;clear k0 k1 k2 k3 k4 k5 k6 k7 o0 o1 o2 o3 o4 o5 o6 o7 o8 o9 o10 o11;generalize jO g src x.o.to_ x.o.oth x.o.ast x.o.path x.o.amt x.o.lim=D at*
 obtain⟨⟨gd,nd⟩,ed⟩:=D;obtain rfl:V=(gd,ed):=HV.out;obtain⟨A4,c4,rfl⟩:=aO og.a;obtain⟨A5,c5,rfl⟩:=aO og.l;obtain⟨A6,c6,rfl⟩:=aO og.o;have HL:ed=0→∀q,LgS w1 q g (.slice A1 g.accs.length c1) (.slice A2 g.lines.length c2) (.slice A3 g.offers.length c3)→(∀k,q=some k→k<w1.heap.size)→LgS w2 q gd (.slice A4 gd.accs.length c4) (.slice A5 gd.lines.length c5) (.slice A6 gd.offers.length c6):=fun h0 q _ hq=>og.lgsr (HOKV.out h0) hq;clear og;have HL:=sH HL;have HF2:=sH F2;have HF1:=sH FA;have HBL:Hid (w.heap.size+2<w1.heap.size):=aC hrb;have FA:=FA.pure F2;have hwk:=hwk.fr F2;have hop:=hop.fr F2;have hrb:=hrb.fr F2;clear F2;obtain⟨m0,m1,m2,m3,m4,m5,m6,y0,y1,y2,y3,y4,y5,y6,ml⟩:=LgB.zc hrb;go_upto_region 14 with(fail)
 exact tw7
def NwN(r:Lgr × Int)(w:World)(e:Ending)(w':World):Prop:=∃Aa na ca Al nl cl Ao no co,e= .returned (.tuple #[.agg #[.int .i64 r.1.num,.slice Aa na ca,.slice Al nl cl,.slice Ao no co,.int .i64 r.1.nid,.int .i64 r.1.fees,.int .u64 (r.1.link:Int)],.int .i64 r.2])∧(r.2=0→∀q,(∀k,q=some k→k<w.heap.size)→LgS w' q r.1 (.slice Aa na ca) (.slice Al nl cl) (.slice Ao no co))∧Fr none w w'
theorem mE(w:World):LgB (w.alloc (.cells #[.int .i64 0,.slice none 0 0,.slice none 0 0,.slice none 0 0,.int .i64 0,.int .i64 0,.int .u64 0] 30 (0,0))) w.heap.size lg0 (.slice none 0 0) (.slice none 0 0) (.slice none 0 0):=aD _ _
theorem pZ(w:World)(q:Option Nat):LgS w q lg0 (.slice none 0 0) (.slice none 0 0) (.slice none 0 0):=⟨SlR.nil _ _ _,SlR.nil _ _ _,SlR.nil _ _ _,⟨by decide,by decide⟩,⟨by decide,by decide⟩,⟨by decide,by decide⟩,by decide⟩
theorem EI{o:Opr}(h:vOp o=true):o.path.length≤1000:=by
 unfold vOp at h;simp only[Bool.and_eq_true,decide_eq_true_eq] at h;have e:=lU o;rw[h.2] at e;rw[e];split
 ·rename_i k;have h1:=h.1;unfold plO at h1;rw[if_neg (by omega),if_neg (by omega),if_neg (by omega),if_neg (by omega),if_neg (by omega),if_pos k] at h1;unfold gI at h1;simp only[Bool.and_eq_true,decide_eq_true_eq] at h1;omega
 simp
theorem EJ{p:Prop}(h:p:=by
 have F9:=(aW (g:=lg0) (va:=.slice none 0 0) (vl:=.slice none 0 0) (vo:=.slice none 0 0) hrb).1;exact⟨none,0,0,none,0,0,none,0,0,by rw[HX.out]<;>rfl,fun _ q _=>by rw[HX.out];exact pZ _ _,FA.own F9⟩):p:=h
theorem Ii{p:Prop}(h:p:=by
 refine hK.out _ _ ⟨HS.out _ G9,G9⟩ (fun hH9=>?_);clear hK K hH0 m0 m1 m2 m3 m4 m5 m6 y0 y1 y2 y3 y4 y5 y6 ml;have hH0:=hH9;clear hH9;try simp only[sI]
 refine sT 11 ?_;try simp only[sI]
 refine wpAnyH_done (by kernel_rfl) ?_ _;go_wp2_with fail;go_meet
 exact⟨_,Aa,na,ca,Al,nl,cl,Ao,no,co,rfl,rfl,hr9,by omega,G9,fun h0 q hq=>(HL9.out h0 q hq).2.both (HL9.out h0 q hq).1 F9⟩):p:=h
theorem CY(g:Lgr)(va vl vo:Value)(src:Int)(x:OpX)(w:World)(h:LgS w none g va vl vo)(hp:OpD w none x)(hw:OpW x.o):Calls Tryz.prog 14 #[.agg #[.int .i64 g.num,va,vl,vo,.int .i64 g.nid,.int .i64 g.fees,.int .u64 (g.link:Int)],.int .i64 src,opV x.o x.v] w (NwN (doO g src x.o) w):=by
 obtain⟨VV,hV⟩:∃V,V=doO g src x.o:=⟨_,rfl⟩;rw[←hV];unfold doO at hV;have HV:=sH hV;clear hV;obtain⟨E,hE⟩:∃E,E=doE g src x.o:=⟨_,rfl⟩;rw[←hE] at HV;unfold doE at hE;have HE:=sH hE;clear hE;obtain⟨A1,c1,rfl, -, -, -⟩:=aN h.1;obtain⟨A2,c2,rfl, -, -, -⟩:=aU h.2.1;obtain⟨A3,c3,rfl, -, -, -⟩:=bA h.2.2.1;have HG:=sH h;have HP:=sH hp;have HWO:=sH hw;clear h hp hw;unfold opV opL OpX.v;go_enter Tryz.func14,Tryz.ntmps14;go_upto_region 1 with(fail)
 generalize hW:((w.alloc _).alloc _).alloc _=w1;obtain⟨FA,hlg,hop,hrb⟩:Fr none w w1∧LgB w1 w.heap.size g (.slice A1 g.accs.length c1) (.slice A2 g.lines.length c2) (.slice A3 g.offers.length c3)∧OpB w1 (w.heap.size+1) x.o x.v∧LgB w1 (w.heap.size+2) lg0 (.slice none 0 0) (.slice none 0 0) (.slice none 0 0):=by rw[←hW];exact eS w _ _ _
 clear hW;obtain⟨k0,k1,k2,k3,k4,k5,k6⟩:=hlg.cells;go_wp2_with fail;refine(eJ g _ _ _ w1 (HG.out.fr FA)).mono ?_;rintro e w2 ⟨rfl,F2⟩;clear k0 k1 k2 k3 k4 k5 k6;have FA:=FA.pure F2;have hlg:=hlg.fr F2;have hop:=hop.fr F2;have hrb:=hrb.fr F2;clear F2;obtain⟨C,hC⟩:∃C,C=aH g:=⟨_,rfl⟩;have HCC:=sH hC;rw[←hC] at HE ⊢;clear hC;by_cases h0:C=0
 ·subst h0;replace HE:=sH (HE.out.trans (if_neg (by simp)));obtain⟨o0,o1,o2,o3,o4,o5,o6,o7,o8,o9,o10,o11⟩:=hop.cells;go_wp2_with fail;refine(rD x w2 (HP.out.fr FA)).mono ?_;rintro e w3 ⟨rfl,F3⟩;clear o0 o1 o2 o3 o4 o5 o6 o7 o8 o9 o10 o11;have FA:=FA.pure F3;have hlg:=hlg.fr F3;have hop:=hop.fr F3;have hrb:=hrb.fr F3;clear F3;obtain⟨v1,hv1⟩:∃v,v=vOp x.o:=⟨_,rfl⟩;have HVO:=sH hv1;rw[←hv1] at HE ⊢;clear hv1;cases v1 with
  |false=>
   have he:E=1:=HE.out.trans (if_pos rfl);have HX:=sH (HV.out.trans (if_pos (by rw[he];decide)));rw[he] at HX;clear he HV HE;obtain⟨m0,m1,m2,m3,m4,m5,m6,y0,y1,y2,y3,y4,y5,y6,ml⟩:=LgB.zc hrb;go_wp2;refine bodyPost_ret (v:=.tuple #[.agg #[.int .i64 0,.slice none 0 0,.slice none 0 0,.slice none 0 0,.int .i64 0,.int .i64 0,.int .u64 0],.int .i64 1]) (by simp[results,Tryz.results14,go_sem,m0,m1,m2,m3,m4,m5,m6]) rfl ?_;exact EJ
  |true=>
   replace HE:=sH (HE.out.trans (if_neg (by simp)));obtain⟨k0,k1,k2,k3,k4,k5,k6⟩:=hlg.cells;go_wp2_with fail;refine(gW g.accs _ src w3 (HG.out.1.fr FA)).mono ?_;rintro e w4 ⟨rfl,F4⟩;have hfs:=dY g.accs src;generalize dR g.accs src=R at*
   obtain⟨⟨f1,f2,f3⟩,FB⟩:=R;have HFB:Hid (FB=(aK g.accs src).isSome):=hfs;rw[←hfs] at HE;clear hfs;clear k0 k1 k2 k3 k4 k5 k6;have FA:=FA.pure F4;have hlg:=hlg.fr F4;have hop:=hop.fr F4;have hrb:=hrb.fr F4;clear F4;go_upto_region 7 with(fail)
   generalize hW:w4.alloc _=w6;have F6:Fr none w4 w6:=hW▸(Fr.refl none w4).alloc _;clear hW;have FA:=FA.pure F6;have hlg:=hlg.fr F6;have hop:=hop.fr F6;have hrb:=hrb.fr F6;clear F6;cases FB with
   |false=>
    have he:E=67:=HE.out.trans (if_pos rfl);have HX:=sH (HV.out.trans (if_pos (by rw[he];decide)));rw[he] at HX;clear he HV HE;obtain⟨m0,m1,m2,m3,m4,m5,m6,y0,y1,y2,y3,y4,y5,y6,ml⟩:=LgB.zc hrb;go_wp2;refine bodyPost_ret (v:=.tuple #[.agg #[.int .i64 0,.slice none 0 0,.slice none 0 0,.slice none 0 0,.int .i64 0,.int .i64 0,.int .u64 0],.int .i64 67]) (by simp[results,Tryz.results14,go_sem,m0,m1,m2,m3,m4,m5,m6]) rfl ?_;exact EJ
   |true=>
    have he:E=0:=HE.out.trans (if_neg (by simp));replace HV:=sH (HV.out.trans (if_neg (by rw[he];decide)));clear he HE;have HA:Hid ((aK g.accs src).isSome=true):=HFB.out.symm;have HK:Hid (aH g=0):=HCC.out.symm;have HPL:Hid (x.o.path.length≤1000):=EI HVO.out.symm;have hk:=HK.out;obtain⟨g1,g2, -, -, -⟩:=aS.1 hk;obtain⟨l1,l2, -, -⟩:=bJ.1 g1;obtain⟨y1, -, -⟩:=bI.1 l1;have hb1:g.accs.length≤1000000:=by omega
    have hb2:g.lines.length≤1000000:=by omega
    have hb3:g.offers.length≤1000000:=by omega
    clear hk g1 g2 l1 l2 y1 HFB HVO HCC;obtain⟨V,hV⟩:∃V,V=wrk g src x.o:=⟨_,rfl⟩;rw[←hV] at HV;have HVW:=sH hV;clear hV;have HS:Hid (∀W,Fr none w6 W→((W.cell? ⟨w.heap.size,0,none⟩=some (.int .i64 g.num)∧W.cell? ⟨w.heap.size,1,none⟩=some (.slice A1 g.accs.length c1)∧W.cell? ⟨w.heap.size,2,none⟩=some (.slice A2 g.lines.length c2)∧W.cell? ⟨w.heap.size,3,none⟩=some (.slice A3 g.offers.length c3)∧W.cell? ⟨w.heap.size,4,none⟩=some (.int .i64 g.nid)∧W.cell? ⟨w.heap.size,5,none⟩=some (.int .i64 g.fees)∧W.cell? ⟨w.heap.size,6,none⟩=some (.int .u64 (g.link:Int)))∧W.cell? ⟨w.heap.size+1,0,none⟩=some (.int .i64 x.o.kind)∧W.cell? ⟨w.heap.size+1,1,none⟩=some (.int .i64 x.o.to_)∧W.cell? ⟨w.heap.size+1,2,none⟩=some (.int .i64 x.o.amt)∧W.cell? ⟨w.heap.size+1,3,none⟩=some (.int .i64 x.o.lim)∧W.cell? ⟨w.heap.size+1,4,none⟩=some (.string (bL x.o.ast.code))∧W.cell? ⟨w.heap.size+1,5,none⟩=some (.int .i64 x.o.ast.iss)∧W.cell? ⟨w.heap.size+1,6,none⟩=some (.string (bL x.o.oth.code))∧W.cell? ⟨w.heap.size+1,7,none⟩=some (.int .i64 x.o.oth.iss)∧W.cell? ⟨w.heap.size+1,8,none⟩=some (.int .i64 x.o.num)∧W.cell? ⟨w.heap.size+1,9,none⟩=some (.int .i64 x.o.den)∧W.cell? ⟨w.heap.size+1,10,none⟩=some (.int .i64 x.o.id)∧W.cell? ⟨w.heap.size+1,11,none⟩=some x.v)):=fun W F=>⟨(hlg.fr F).cells,(hop.fr F).cells⟩;go_upto_region 9 with(fail)
    go_cut [11,12,35,36,37,38,39,40,41,42,43] (fun s11 s12 _ _ _ _ _ _ _ _ _ W=>∃(bx:Nat) (Aa:Option Addr) (na ca:Nat) (Al:Option Addr) (nl cl:Nat) (Ao:Option Addr) (no co:Nat),s11= .pointer (some ⟨bx,0,none⟩)∧s12= .int .i64 V.2∧LgB W bx V.1 (.slice Aa na ca) (.slice Al nl cl) (.slice Ao no co)∧w6.heap.size≤bx∧Fr none w6 W∧(V.2=0→∀q,(∀k,q=some k→k<w6.heap.size)→LgS W q V.1 (.slice Aa na ca) (.slice Al nl cl) (.slice Ao no co)))
    case first=>
     clear hlg hop hrb HV;refine wp_region_held_drew (S:=fun W=>((W.cell? ⟨w.heap.size,0,none⟩=some (.int .i64 g.num)∧W.cell? ⟨w.heap.size,1,none⟩=some (.slice A1 g.accs.length c1)∧W.cell? ⟨w.heap.size,2,none⟩=some (.slice A2 g.lines.length c2)∧W.cell? ⟨w.heap.size,3,none⟩=some (.slice A3 g.offers.length c3)∧W.cell? ⟨w.heap.size,4,none⟩=some (.int .i64 g.nid)∧W.cell? ⟨w.heap.size,5,none⟩=some (.int .i64 g.fees)∧W.cell? ⟨w.heap.size,6,none⟩=some (.int .u64 (g.link:Int)))∧W.cell? ⟨w.heap.size+1,0,none⟩=some (.int .i64 x.o.kind)∧W.cell? ⟨w.heap.size+1,1,none⟩=some (.int .i64 x.o.to_)∧W.cell? ⟨w.heap.size+1,2,none⟩=some (.int .i64 x.o.amt)∧W.cell? ⟨w.heap.size+1,3,none⟩=some (.int .i64 x.o.lim)∧W.cell? ⟨w.heap.size+1,4,none⟩=some (.string (bL x.o.ast.code))∧W.cell? ⟨w.heap.size+1,5,none⟩=some (.int .i64 x.o.ast.iss)∧W.cell? ⟨w.heap.size+1,6,none⟩=some (.string (bL x.o.oth.code))∧W.cell? ⟨w.heap.size+1,7,none⟩=some (.int .i64 x.o.oth.iss)∧W.cell? ⟨w.heap.size+1,8,none⟩=some (.int .i64 x.o.num)∧W.cell? ⟨w.heap.size+1,9,none⟩=some (.int .i64 x.o.den)∧W.cell? ⟨w.heap.size+1,10,none⟩=some (.int .i64 x.o.id)∧W.cell? ⟨w.heap.size+1,11,none⟩=some x.v)∧Fr none w6 W) (by kernel_rfl) ⟨HS.out _ (Fr.refl _ _).drew,(Fr.refl _ _).drew⟩ (fun hH0=>?_);refine sT 0 ?_;try simp only[sI]
     refine sT 2 ?_;try simp only[sI]
     refine sT 4 ?_;try simp only[sI]
     have G0:Fr none w6 w6.drew:=(Fr.refl _ _).drew;obtain⟨wN,hwN⟩:∃wN,wN=w6.drew:=⟨_,rfl⟩;rw[←hwN] at G0 ⊢;clear hwN;refine wpAnyH_ready (rs:=[1,9]) (by kernel_rfl) (by simp) ?_;refine AllReadyH.cons rfl (fun K hK=>?_) (AllReadyH.cons rfl (fun K hK=>?_) AllReadyH.nil)
     ·skip
      simp only[sJ];go_simp;go_at_call 29;refine(kD g _ _ _ _ (HG.out.fr (FA.pure G0)) hb1 hb2 hb3).mono ?_;rintro e w7 ⟨va7,vl7,vo7,rfl,og7,F7⟩;obtain⟨A4,c4,rfl⟩:=aO og7.a;obtain⟨A5,c5,rfl⟩:=aO og7.l;obtain⟨A6,c6,rfl⟩:=aO og7.o;have G7:=(G0).pure F7;have HOG:=sH og7;refine hK.out _ _ ⟨HS.out _ G7,G7⟩ (fun hH9=>?_);clear hK K hH0 og7;have hH0:=hH9;clear hH9;try simp only[sI]
      refine sT 3 ?_;try simp only[sI]
      refine wpAnyH_ready (rs:=[5,9]) (by kernel_rfl) (by simp) ?_;refine AllReadyH.cons rfl (fun K hK=>?_) (AllReadyH.cons rfl (fun K hK=>?_) AllReadyH.nil)
      ·skip
       simp only[sJ];go_simp;go_at_call 42;refine(pY g _ _ _ src x _ (HOG.out.lgs HG.out.ok) (HP.out.fr (FA.pure G7)) HK.out HA.out HPL.out HWO.out).mono ?_;rintro e w8 ⟨Aa,na,ca,Al,nl,cl,Ao,no,co,rfl,HL,F8⟩;rw[←HVW.out] at HL ⊢;have G8:=(G7).pure F8;refine hK.out _ _ ⟨HS.out _ G8,G8⟩ (fun hH9=>?_);clear hK K hH0;have hH0:=hH9;clear hH9;try simp only[sI]
       refine sT 6 ?_;try simp only[sI]
       refine sT 7 ?_;try simp only[sI]
       refine sT 8 ?_;try simp only[sI]
       have Fz:=(Fr.refl none w8).alloc (.cells #[.int .i64 0,.slice none 0 0,.slice none 0 0,.slice none 0 0,.int .i64 0,.int .i64 0,.int .u64 0] 30 (0,0));have G9a:=G8.alloc (.cells #[.int .i64 0,.slice none 0 0,.slice none 0 0,.slice none 0 0,.int .i64 0,.int .i64 0,.int .u64 0] 30 (0,0));have h86:=G8.size;have HL9:V.2=0→∀q,(∀k,q=some k→k<w6.heap.size)→LgS w8 q V.1 (.slice Aa na ca) (.slice Al nl cl) (.slice Ao no co):=fun h0 q hq=>HL h0 q (HOG.out.lgsr HG.out.ok (fun k e=>Nat.lt_of_lt_of_le (hq k e) G0.size)) (fun k e=>Nat.lt_of_lt_of_le (hq k e) G7.size);refine wpAnyH_ready (rs:=[9]) (by kernel_rfl) (by simp) ?_;refine AllReadyH.cons rfl (fun K hK=>?_) AllReadyH.nil;simp only[sJ];go_simp;refine hK.out _ _ ⟨HS.out _ G9a,G9a⟩ (fun hH9=>?_);clear hK K hH0;have hH0:=hH9;clear hH9;try simp only[sI]
       refine wpAnyH_ready (rs:=[10]) (by kernel_rfl) (by simp) ?_;refine AllReadyH.cons rfl (fun K hK=>?_) AllReadyH.nil;simp only[sJ];have hbx:LgB (w8.alloc (.cells #[.int .i64 0,.slice none 0 0,.slice none 0 0,.slice none 0 0,.int .i64 0,.int .i64 0,.int .u64 0] 30 (0,0))) w8.heap.size lg0 (.slice none 0 0) (.slice none 0 0) (.slice none 0 0):=mE w8;obtain⟨m0,m1,m2,m3,m4,m5,m6,y0,y1,y2,y3,y4,y5,y6,ml⟩:=LgB.zc hbx;have HL9:=sH HL9;clear HL;go_simp;have G9:=G8.alloc (.cells #[.int .i64 V.1.num,.slice Aa na ca,.slice Al nl cl,.slice Ao no co,.int .i64 V.1.nid,.int .i64 V.1.fees,.int .u64 (V.1.link:Int)] 30 (0,0));have hr9:LgB (w8.alloc (.cells #[.int .i64 V.1.num,.slice Aa na ca,.slice Al nl cl,.slice Ao no co,.int .i64 V.1.nid,.int .i64 V.1.fees,.int .u64 (V.1.link:Int)] 30 (0,0))) w8.heap.size V.1 (.slice Aa na ca) (.slice Al nl cl) (.slice Ao no co):=aD _ _;refine hK.out _ _ ⟨HS.out _ G9,G9⟩ (fun hH9=>?_);clear hK K hH0 m0 m1 m2 m3 m4 m5 m6 y0 y1 y2 y3 y4 y5 y6 ml;have hH0:=hH9;clear hH9;try simp only[sI]
       refine sT 11 ?_;try simp only[sI]
       refine wpAnyH_done (by kernel_rfl) ?_ _;go_wp2_with fail;go_meet
       exact⟨_,Aa,na,ca,Al,nl,cl,Ao,no,co,rfl,rfl,hr9,by omega,G9,fun h0 q hq=>(HL9.out h0 q hq).fr ((Fr.refl none w8).alloc _).mono⟩
      skip
      have Fz:=(Fr.refl none w7).alloc (.cells #[.int .i64 0,.slice none 0 0,.slice none 0 0,.slice none 0 0,.int .i64 0,.int .i64 0,.int .u64 0] 30 (0,0));have G9a:=G7.alloc (.cells #[.int .i64 0,.slice none 0 0,.slice none 0 0,.slice none 0 0,.int .i64 0,.int .i64 0,.int .u64 0] 30 (0,0));simp only[sJ];go_simp;refine hK.out _ _ ⟨HS.out _ G9a,G9a⟩ (fun hH9=>?_);clear hK K hH0;have hH0:=hH9;clear hH9;try simp only[sI]
      refine wpAnyH_ready (rs:=[5]) (by kernel_rfl) (by simp) ?_;refine AllReadyH.cons rfl (fun K hK=>?_) AllReadyH.nil;simp only[sJ];go_simp;go_at_call 42;refine(pY g _ _ _ src x _ ((HOG.out.fr Fz).lgs HG.out.ok) (HP.out.fr (FA.pure G9a)) HK.out HA.out HPL.out HWO.out).mono ?_;rintro e w8 ⟨Aa,na,ca,Al,nl,cl,Ao,no,co,rfl,HL,F8⟩;rw[←HVW.out] at HL ⊢;have G8:=(G9a).pure F8;refine hK.out _ _ ⟨HS.out _ G8,G8⟩ (fun hH9=>?_);clear hK K hH0;have hH0:=hH9;clear hH9;try simp only[sI]
      refine sT 6 ?_;try simp only[sI]
      refine sT 7 ?_;try simp only[sI]
      refine sT 8 ?_;try simp only[sI]
      have h86:=G7.size;have HL9:V.2=0→∀q,(∀k,q=some k→k<w6.heap.size)→LgS w8 q V.1 (.slice Aa na ca) (.slice Al nl cl) (.slice Ao no co)∧LgS w8 (some w7.heap.size) V.1 (.slice Aa na ca) (.slice Al nl cl) (.slice Ao no co):=fun h0 q hq=>⟨HL h0 q ((HOG.out.fr Fz).lgsr HG.out.ok (fun k e=>Nat.lt_of_lt_of_le (hq k e) G0.size)) (fun k e=>Nat.lt_of_lt_of_le (hq k e) G9a.size),HL h0 (some w7.heap.size) ((HOG.out.lgs HG.out.ok).fresh Fz (Nat.le_refl _)) (fun k e=>by injection e with e;have:=aC (mE w7);omega)⟩;refine wpAnyH_ready (rs:=[10]) (by kernel_rfl) (by simp) ?_;refine AllReadyH.cons rfl (fun K hK=>?_) AllReadyH.nil;simp only[sJ];have hbx:LgB w8 w7.heap.size lg0 (.slice none 0 0) (.slice none 0 0) (.slice none 0 0):=(mE w7).fr F8;have HL9:=sH HL9;clear HL;obtain⟨m0,m1,m2,m3,m4,m5,m6,y0,y1,y2,y3,y4,y5,y6,ml⟩:=LgB.zc hbx;go_simp;obtain⟨F9,hr9⟩:=aW (g:=V.1) (va:=.slice Aa na ca) (vl:=.slice Al nl cl) (vo:=.slice Ao no co) hbx;have G9:=(G8).new F9 (show w6.heap.size≤w7.heap.size by omega);exact Ii
     skip
     have Fz:=(Fr.refl none wN).alloc (.cells #[.int .i64 0,.slice none 0 0,.slice none 0 0,.slice none 0 0,.int .i64 0,.int .i64 0,.int .u64 0] 30 (0,0));have G9a:=G0.alloc (.cells #[.int .i64 0,.slice none 0 0,.slice none 0 0,.slice none 0 0,.int .i64 0,.int .i64 0,.int .u64 0] 30 (0,0));simp only[sJ];go_simp;refine hK.out _ _ ⟨HS.out _ G9a,G9a⟩ (fun hH9=>?_);clear hK K hH0;have hH0:=hH9;clear hH9;try simp only[sI]
     refine wpAnyH_ready (rs:=[1]) (by kernel_rfl) (by simp) ?_;refine AllReadyH.cons rfl (fun K hK=>?_) AllReadyH.nil;simp only[sJ];go_simp;go_at_call 29;refine(kD g _ _ _ _ (HG.out.fr (FA.pure G9a)) hb1 hb2 hb3).mono ?_;rintro e w7 ⟨va7,vl7,vo7,rfl,og7,F7⟩;obtain⟨A4,c4,rfl⟩:=aO og7.a;obtain⟨A5,c5,rfl⟩:=aO og7.l;obtain⟨A6,c6,rfl⟩:=aO og7.o;have G7:=(G9a).pure F7;have HOG:=sH og7;refine hK.out _ _ ⟨HS.out _ G7,G7⟩ (fun hH9=>?_);clear hK K hH0 og7;have hH0:=hH9;clear hH9;try simp only[sI]
     refine sT 3 ?_;try simp only[sI]
     refine wpAnyH_ready (rs:=[5]) (by kernel_rfl) (by simp) ?_;refine AllReadyH.cons rfl (fun K hK=>?_) AllReadyH.nil;simp only[sJ];go_simp;go_at_call 42;refine(pY g _ _ _ src x _ (HOG.out.lgs HG.out.ok) (HP.out.fr (FA.pure G7)) HK.out HA.out HPL.out HWO.out).mono ?_;rintro e w8 ⟨Aa,na,ca,Al,nl,cl,Ao,no,co,rfl,HL,F8⟩;rw[←HVW.out] at HL ⊢;have G8:=(G7).pure F8;refine hK.out _ _ ⟨HS.out _ G8,G8⟩ (fun hH9=>?_);clear hK K hH0;have hH0:=hH9;clear hH9;try simp only[sI]
     refine sT 6 ?_;try simp only[sI]
     refine sT 7 ?_;try simp only[sI]
     refine sT 8 ?_;try simp only[sI]
     have h86:=G0.size;have hbl9:=aC (mE wN);have HL9:V.2=0→∀q,(∀k,q=some k→k<w6.heap.size)→LgS w8 q V.1 (.slice Aa na ca) (.slice Al nl cl) (.slice Ao no co)∧LgS w8 (some wN.heap.size) V.1 (.slice Aa na ca) (.slice Al nl cl) (.slice Ao no co):=fun h0 q hq=>⟨HL h0 q (HOG.out.lgsr HG.out.ok (fun k e=>Nat.lt_of_lt_of_le (hq k e) G9a.size)) (fun k e=>Nat.lt_of_lt_of_le (hq k e) G7.size),HL h0 (some wN.heap.size) (HOG.out.lgsr HG.out.ok (fun k e=>by injection e with e;omega)) (fun k e=>by injection e with e;have:=F7.size;omega)⟩;refine wpAnyH_ready (rs:=[10]) (by kernel_rfl) (by simp) ?_;refine AllReadyH.cons rfl (fun K hK=>?_) AllReadyH.nil;simp only[sJ];have hbx:LgB w8 wN.heap.size lg0 (.slice none 0 0) (.slice none 0 0) (.slice none 0 0):=(mE wN).fr (F7.pure F8);have HL9:=sH HL9;clear HL;obtain⟨m0,m1,m2,m3,m4,m5,m6,y0,y1,y2,y3,y4,y5,y6,ml⟩:=LgB.zc hbx;go_simp;obtain⟨F9,hr9⟩:=aW (g:=V.1) (va:=.slice Aa na ca) (vl:=.slice Al nl cl) (vo:=.slice Ao no co) hbx;have G9:=(G8).new F9 (show w6.heap.size≤wN.heap.size by omega);exact Ii
    case rest=>
     obtain⟨bx,Aa,na,ca,Al,nl,cl,Ao,no,co,rfl,rfl,hbx,hbs,FW,HLW⟩:=hcut;have h62:w.heap.size+2<w6.heap.size:=aC hrb;have HS9:=sH HLW;have HH6:=sH h62;clear HLW h62 HS;have FA:=FA.pure FW;have hlg:=hlg.fr FW;have hop:=hop.fr FW;have hrb:=hrb.fr FW;clear FW;by_cases h0:V.2=0
     ·replace HV:=sH (HV.out.trans (if_neg (by simp[h0])));rw[h0];obtain⟨n0,n1,n2,n3,n4,n5,n6⟩:=hbx.cells;obtain⟨m0,m1,m2,m3,m4,m5,m6,y0,y1,y2,y3,y4,y5,y6,ml⟩:=LgB.zc hrb;go_wp2;refine bodyPost_ret (v:=.tuple #[.agg #[.int .i64 V.1.num,.slice Aa na ca,.slice Al nl cl,.slice Ao no co,.int .i64 V.1.nid,.int .i64 V.1.fees,.int .u64 (V.1.link:Int)],.int .i64 0]) (by simp[results,Tryz.results14,go_sem,m0,m1,m2,m3,m4,m5,m6]) rfl ?_;have F9:=(aW (g:=V.1) (va:=.slice Aa na ca) (vl:=.slice Al nl cl) (vo:=.slice Ao no co) hrb).1;exact⟨Aa,na,ca,Al,nl,cl,Ao,no,co,by rw[HV.out],fun _ q hq=>by
       rw[HV.out];exact(HS9.out h0 (some (w.heap.size+2)) (fun k e=>by injection e with e;have:=HH6.out;omega)).both (HS9.out h0 q (fun k e=>by have:=hq k e;have:=HH6.out;omega)) F9,FA.own F9⟩
     have HX:=sH (HV.out.trans (if_pos h0));have hq:(V.2 !=0)=true:=by simp[h0]
     clear h0 HV;obtain⟨m0,m1,m2,m3,m4,m5,m6,y0,y1,y2,y3,y4,y5,y6,ml⟩:=LgB.zc hrb;go_wp2;refine bodyPost_ret (v:=.tuple #[.agg #[.int .i64 0,.slice none 0 0,.slice none 0 0,.slice none 0 0,.int .i64 0,.int .i64 0,.int .u64 0],.int .i64 V.2]) (by simp[results,Tryz.results14,go_sem,m0,m1,m2,m3,m4,m5,m6]) rfl ?_;exact EJ
 have he:E=C:=HE.out.trans (if_pos h0);have HX:=sH (HV.out.trans (if_pos (by rw[he];exact h0)));rw[he] at HX;have hq:(C !=0)=true:=by simp[h0]
 clear he h0 HV HE;obtain⟨m0,m1,m2,m3,m4,m5,m6,y0,y1,y2,y3,y4,y5,y6,ml⟩:=LgB.zc hrb;go_wp2;refine bodyPost_ret (v:=.tuple #[.agg #[.int .i64 0,.slice none 0 0,.slice none 0 0,.slice none 0 0,.int .i64 0,.int .i64 0,.int .u64 0],.int .i64 C]) (by simp[results,Tryz.results14,go_sem,m0,m1,m2,m3,m4,m5,m6]) rfl ?_;exact EJ
end Go.Proofs.YthaggndnfamhjaaGreatDoor
