/- Texts, joined. -/
import Derived.Test.YthaggndnfamhjaaGreatDoorProg
import Derived.Test.YthaggndnfamhjaaGreatDoorJK18
import Derived.Test.YthaggndnfamhjaaGreatDoorJK16
import Derived.Test.YthaggndnfamhjaaGreatDoorJA

set_option linter.unusedSimpArgs false
set_option linter.unusedVariables false
set_option maxRecDepth 100000
set_option maxHeartbeats 16000000
namespace Go.Proofs.YthaggndnfamhjaaGreatDoor
open Go.RowKit
theorem fD(a b:Ast):decide (a=b)=(decide (a.code=b.code)&&decide (a.iss=b.iss)):=by
 rw[Bool.eq_iff_iff,Bool.and_eq_true,decide_eq_true_iff,decide_eq_true_iff,decide_eq_true_iff];constructor
 ·rintro rfl;exact⟨rfl,rfl⟩
 rintro⟨h1,h2⟩;cases a;cases b;simp only at h1 h2;rw[h1,h2]
theorem GW{g:Lgr}{x y:Ofr}{q:Option Ofr}{n1 n2:Int}{FB p c0 c1 c2 c3 c4 c5 c6 c7 c8 c9 c10 c11 d1 d2 d3 v1 v2 d6 d7 v8 d9 d10 d11:Bool}(hFB:FB=(aK g.accs x.sel).isSome)(hb:q=if p=true then some y else none)(hR:cI x.num x.den=(n1,n2))
  (hc0:c0=(!FB)) (hc1:c1=(c0||d1)) (hc2:c2=(c1||d2)) (hc3:c3=(c2||(p&&d3))) (hc4:c4=(c3|| !v1)) (hc5:c5=(c4|| !v2)) (hc6:c6=(c5||d6)) (hc7:c7=(c6||d7)) (hc8:c8=(c7|| !v8)) (hc9:c9=(c8||d9)) (hc10:c10=(c9||d10)) (hc11:c11=(c10||d11))
  (hd1:decide (x.id<1)=d1) (hd2:decide (g.nid≤x.id)=d2) (hd3:decide (x.id≤y.id)=d3) (hv1:aV x.sg=v1) (hv2:aV x.by_=v2) (hd6:d6=decide (x.sg=x.by_)) (hd7:decide (x.amt<1)=d7) (hv8:aX x.amt=v8) (hd9:(n1 == 0)=d9) (hd10:(n1 !=x.num)=d10) (hd11:(n2 !=x.den)=d11):fJ g q x= !c11:=by
 have h2:decide (1≤x.id∧x.id<g.nid)=(!d1&& !d2):=by
  rw[←hd1,←hd2,Bool.eq_iff_iff];simp only[decide_eq_true_eq,Bool.and_eq_true,Bool.not_eq_true',decide_eq_false_iff_not];omega
 have h3:decide (y.id<x.id)= !d3:=by
  rw[←hd3,Bool.eq_iff_iff];simp only[decide_eq_true_eq,Bool.not_eq_true',decide_eq_false_iff_not];omega
 have h6:decide (x.sg≠x.by_)= !d6:=by rw[hd6];simp
 have h7:decide (1≤x.amt)= !d7:=by
  rw[←hd7,Bool.eq_iff_iff];simp only[decide_eq_true_eq,Bool.not_eq_true',decide_eq_false_iff_not];omega
 have h9:decide (cI x.num x.den=(x.num,x.den)∧x.num≠0)=(!d9&&(!d10&& !d11)):=by
  rw[hR,←hd9,←hd10,←hd11,Bool.eq_iff_iff];simp only[decide_eq_true_eq,Bool.and_eq_true,Bool.not_eq_true',beq_eq_false_iff_ne,bne_eq_false_iff_eq,Prod.mk.injEq,ne_eq];constructor
  ·rintro⟨⟨h1,h2⟩,h3⟩;exact⟨fun e=>h3 (by omega),h1,h2⟩
  rintro⟨h1,h2,h3⟩;exact⟨⟨h2,h3⟩,fun e=>h1 (by omega)⟩
 subst hb;unfold fJ;rw[←hFB,h2,hv1,hv2,h6,h7,hv8,h9,hc11,hc10,hc9,hc8,hc7,hc6,hc5,hc4,hc3,hc2,hc1,hc0];cases p with
 |false=>simp[Bool.not_or,Bool.not_not,Bool.and_assoc]
 |true=>
  simp only[if_true];rw[h3];simp[Bool.not_or,Bool.not_not,Bool.and_assoc]
theorem rB(g:Lgr)(va vl vo:Value)(w:World)(h:LgS w none g va vl vo):Calls Tryz.prog 18 #[.agg #[.int .i64 g.num,va,vl,vo,.int .i64 g.nid,.int .i64 g.fees,.int .u64 (g.link:Int)]] w fun e w'=>e= .returned (.int .i64 (aH g))∧Fr none w w':=by
 obtain⟨V,hV⟩:∃V,V=aH g:=⟨_,rfl⟩;rw[←hV];have HV:=sH hV;clear hV;obtain⟨A1,ca,rfl,_,_,_⟩:=aN h.1;obtain⟨A2,cb,rfl,_,_,_⟩:=aU h.2.1;obtain⟨A3,cc,rfl,q1,q2,hc⟩:=bA h.2.2.1;have HC:=sH hc;have HG:=sH h;clear h hc;obtain⟨CL,hCL⟩:∃CL,CL=bW g.lines g.accs:=⟨_,rfl⟩;have HCL:=sH hCL;clear hCL;go_enter Tryz.func18,Tryz.ntmps18;go_upto_region 1 with(fail)
 generalize hW:w.alloc _=w1;have F1:Fr none w w1:=hW▸(Fr.refl none w).alloc _;have b1:w1.heap[w.heap.size]?=some (.cells #[.int .i64 g.num,.slice A1 g.accs.length ca,.slice A2 g.lines.length cb,.slice A3 g.offers.length cc,.int .i64 g.nid,.int .i64 g.fees,.int .u64 (g.link:Int)] 30 (0,0)):=by rw[←hW];exact aD _ _
 have k1:w1.cell? ⟨w.heap.size,1,none⟩=some (.slice A1 g.accs.length ca):=by rw[aA b1];rfl
 have k2:w1.cell? ⟨w.heap.size,2,none⟩=some (.slice A2 g.lines.length cb):=by rw[aA b1];rfl
 have l1:=aC b1;clear hW;go_wp2_with fail;refine(qZ g.lines g.accs _ _ w1 (HG.out.2.1.fr F1) (HG.out.1.fr F1)).mono ?_;rintro e w2 ⟨rfl,F2⟩;rw[←HCL.out];have b1:=aF b1 F2 (by simp);have FF:=F1.pure F2;clear k1 k2 l1 F1 F2;have l1:=aC b1;have k0:w2.cell? ⟨w.heap.size,0,none⟩=some (.int .i64 g.num):=by rw[aA b1];rfl
 have k3:w2.cell? ⟨w.heap.size,3,none⟩=some (.slice A3 g.offers.length cc):=by rw[aA b1];rfl
 have k4:w2.cell? ⟨w.heap.size,4,none⟩=some (.int .i64 g.nid):=by rw[aA b1];rfl
 have k5:w2.cell? ⟨w.heap.size,5,none⟩=some (.int .i64 g.fees):=by rw[aA b1];rfl
 by_cases hA:CL=0
 ·subst hA;have HC0:Hid (¬bW g.lines g.accs≠0):=fun e=>e HCL.out.symm;by_cases hl:40<g.offers.length
  ·have hd:decide ((40:Int)<(g.offers.length:Int))=true:=decide_eq_true (by omega);have HX:Hid (V=3):=by unfold Hid;rw[HV.out];unfold aH;rw[if_neg HC0.out,if_pos hl]
   clear hl;go_wp2;go_ret;exact⟨aM HX.out.symm,FF⟩
  have hd:decide ((40:Int)<(g.offers.length:Int))=false:=decide_eq_false (by omega);have HV2:Hid (V=if dI g=true∧bV (fJ g) none g.offers=true then 0 else 74):=by unfold Hid;rw[HV.out];unfold aH;rw[if_neg HC0.out,if_neg hl]
  have HL40:Hid (g.offers.length≤40):=by unfold Hid;omega
  clear hl HV;by_cases n1:1≤g.nid
  ·have e1:decide (g.nid<1)=false:=decide_eq_false (by omega);by_cases n2:g.nid≤1000000
   ·have e2:decide (1000000<g.nid)=false:=decide_eq_false (by omega);go_wp2_with fail;refine(jT g.fees w2).mono ?_;rintro e w3 ⟨rfl,F3⟩;have b1:=aF b1 F3 (by simp);have FF:=FF.pure F3;clear k0 k3 k4 k5 l1 F3;have l1:=aC b1;have k0:w3.cell? ⟨w.heap.size,0,none⟩=some (.int .i64 g.num):=by rw[aA b1];rfl
    have k3:w3.cell? ⟨w.heap.size,3,none⟩=some (.slice A3 g.offers.length cc):=by rw[aA b1];rfl
    cases hq:aX g.fees with
    |false=>
     have HX:Hid (V=74):=by
      unfold Hid;rw[HV2.out,if_neg (fun e=>by have e:=e.1;unfold dI at e;simp only[Bool.and_eq_true,decide_eq_true_eq] at e;rw[hq] at e;exact absurd e.2.1 (by simp))]
     clear hq;go_wp2;go_ret;exact⟨aM HX.out.symm,FF⟩
    |true=>
     by_cases n3:0≤g.num
     ·have e3:decide (g.num<0)=false:=decide_eq_false (by omega);by_cases n4:g.num≤1000000
      ·have e4:decide (1000000<g.num)=false:=decide_eq_false (by omega);have HVl:Hid (V=if bV (fJ g) none g.offers=true then 0 else 74):=by
        unfold Hid;have ho:dI g=true:=by unfold dI;rw[decide_eq_true ⟨n1,n2⟩,decide_eq_true ⟨n3,n4⟩,hq];rfl
        rw[HV2.out,ho];simp only[true_and]
       clear hq HV2;go_wp2_with fail;clear k0 k3;have F03:=FF;go_loopw [49] (fun s49 wr=>∃j:Nat,j≤g.offers.length∧s49= .int .i64 (j:Int)∧Hid (∀k (hk:k<g.offers.length),k<j→fJ g (bK g.offers k) g.offers[k]=true)∧Fr none w3 wr) (fun s49 _=>g.offers.length - (intOf s49).toNat)
       case atStart=>exact⟨0,by omega,rfl,fun k _ hk=>by omega,Fr.refl _ _⟩
       case round=>
        obtain⟨j,hj,rfl,HJ,F⟩:=hrel;obtain⟨wz,hwz⟩:∃wz:World,wz=wr:=⟨_,rfl⟩;subst hwz;have F0z:=F03.pure F;clear FF;by_cases hlt:j<g.offers.length
        ·obtain⟨b,off,rfl,hb,_,hcc⟩:=HC.out (by omega);obtain⟨c1,c2,c3,c4,c5,c6,c7,c8,c9⟩:=hcc j hlt;have c1:=F0z.keep c1;have c2:=F0z.keep c2;have c3:=F0z.keep c3;have c4:=F0z.keep c4;have c5:=F0z.keep c5;have c6:=F0z.keep c6;have c7:=F0z.keep c7;have c8:=F0z.keep c8;have c9:=F0z.keep c9;have HNo:Hid (fJ g (bK g.offers j) g.offers[j]=false→V=74):=fun h=>by rw[HVl.out,if_neg (by rw[gC hlt h];simp)]
         have HYes:Hid (fJ g (bK g.offers j) g.offers[j]=true→∀k (hk:k<g.offers.length),k<j+1→fJ g (bK g.offers k) g.offers[k]=true):=fun h k hk hkj=>by
          rcases Nat.lt_or_ge k j with hh|hh
          ·exact HJ.out k hk hh
          obtain rfl:k=j:=by omega
          exact h
         obtain⟨p,hp⟩:∃p,decide (0<j)=p:=⟨_,rfl⟩;obtain⟨m,hmj⟩:∃m,j - 1=m:=⟨_,rfl⟩;have HMJ:=sH hmj;obtain⟨y,hy1,hy2⟩:∃y:Ofr,bK g.offers j=(if p=true then some y else none)∧(p=true→wz.cell? ⟨b,off+m*9,none⟩=some (.int .i64 y.id)):=by
          subst hmj;cases p with
          |false=>
           have hj0:j=0:=by have:=of_decide_eq_false hp;omega
           exact⟨g.offers[j],by unfold bK;rw[if_pos hj0];rfl,fun h=>by cases h⟩
          |true=>
           have hj0:0<j:=of_decide_eq_true hp;have hj1:j - 1<g.offers.length:=by omega
           exact⟨g.offers[j - 1],by unfold bK;rw[if_neg (by omega)];simp[hj1],fun _=>F0z.keep (hcc (j - 1) hj1).1 (by simp)⟩
         have HY1:=sH hy1;have HY2:=sH hy2;have HP:=sH hp;clear hcc HJ hy1 hy2 hp;generalize g.offers[j]=x at*
         go_upto_region 11 with(fail)
         generalize hW:wz.alloc _=wx;have Fx:Fr none wz wx:=hW▸(Fr.refl none wz).alloc _;have b5:wx.heap[wz.heap.size]?=some (.cells #[.int .i64 x.id,.int .i64 x.sel,.string (bL x.sg.code),.int .i64 x.sg.iss,.string (bL x.by_.code),.int .i64 x.by_.iss,.int .i64 x.amt,.int .i64 x.num,.int .i64 x.den] 67 (0,0)):=by rw[←hW];exact aD _ _
         have r1:wx.cell? ⟨wz.heap.size,1,none⟩=some (.int .i64 x.sel):=by rw[aA b5];rfl
         have b1x:=aF b1 (F.pure Fx) (by simp);have r2:wx.cell? ⟨w.heap.size,1,none⟩=some (.slice A1 g.accs.length ca):=by rw[aA b1x];rfl
         have l5:=aC b5;have l1:=aC b1x;clear hW c1 c2 c3 c4 c5 c6 c7 c8 c9;go_wp2_with fail;refine(fM g.accs _ x.sel wx (HG.out.1.fr (F0z.pure Fx))).mono ?_;rintro e wy ⟨rfl,Fy⟩;have hfs:=dY g.accs x.sel;generalize dR g.accs x.sel=R at*
         obtain⟨⟨f1,f2,f3⟩,FB⟩:=R;have HFB:Hid (FB=(aK g.accs x.sel).isSome):=hfs;clear hfs r1 r2 l5 l1;simp only[xB];have b5:=aF b5 Fy (by simp);go_upto_region 12 with(fail)
         generalize hW:wy.alloc _=wa;have Fb:Fr none wy wa:=hW▸(Fr.refl none wy).alloc _;clear hW;have b5:=aF b5 Fb (by simp);have Fa:=(Fx.pure Fy).pure Fb;have b1a:=aF b1x (Fy.pure Fb) (by simp);have F0a:=F0z.pure Fa;clear Fx Fy Fb b1x;have HK:Hid (∀W,Fr none wa W→(W.cell? ⟨w.heap.size,3,none⟩=some (.slice (some ⟨b,off,none⟩) g.offers.length cc)∧W.cell? ⟨w.heap.size,4,none⟩=some (.int .i64 g.nid))∧(W.cell? ⟨wz.heap.size,0,none⟩=some (.int .i64 x.id)∧W.cell? ⟨wz.heap.size,1,none⟩=some (.int .i64 x.sel)∧W.cell? ⟨wz.heap.size,2,none⟩=some (.string (bL x.sg.code))∧W.cell? ⟨wz.heap.size,3,none⟩=some (.int .i64 x.sg.iss)∧W.cell? ⟨wz.heap.size,4,none⟩=some (.string (bL x.by_.code))∧W.cell? ⟨wz.heap.size,5,none⟩=some (.int .i64 x.by_.iss)∧W.cell? ⟨wz.heap.size,6,none⟩=some (.int .i64 x.amt)∧W.cell? ⟨wz.heap.size,7,none⟩=some (.int .i64 x.num)∧W.cell? ⟨wz.heap.size,8,none⟩=some (.int .i64 x.den))∧(p=true→W.cell? ⟨b,off+m*9,none⟩=some (.int .i64 y.id))):=fun W FW=>by
          have q1:=aF b1a FW (by simp);have q5:=aF b5 FW (by simp);exact⟨⟨by rw[aA q1];rfl,by rw[aA q1];rfl⟩,⟨by rw[aA q5];rfl,by rw[aA q5];rfl,by rw[aA q5];rfl,by rw[aA q5];rfl,by rw[aA q5];rfl,by rw[aA q5];rfl,by rw[aA q5];rfl,by rw[aA q5];rfl,by rw[aA q5];rfl⟩,fun e=>(Fa.pure FW).keep (HY2.out e)⟩
         have l5:=aC b5;clear b5 b1a;obtain⟨⟨k3,k4⟩,⟨x0,x1,x2,x3,x4,x5,x6,x7,x8⟩,y0⟩:=HK.out wa (Fr.refl _ _);go_wp2_with fail;refine(qY x.num x.den wa).mono ?_;obtain⟨⟨n1,n2⟩,hRd⟩:∃R,R=cI x.num x.den:=⟨_,rfl⟩;rw[←hRd];have HRd:Hid (cI x.num x.den=(n1,n2)):=hRd.symm;clear hRd;rintro e wd ⟨rfl,Fd⟩;clear k3 k4 x0 x1 x2 x3 x4 x5 x6 x7 x8 y0;go_upto_region 13 with(fail)
         have hml':p=true→(m:Int)<(g.offers.length:Int)∧IntKind.i64.wrap ((j:Int) - 1)=(m:Int):=fun e=>by
          have hj0:0<j:=of_decide_eq_true (HP.out.trans e);have:=HMJ.out;refine⟨by omega,?_⟩;rw[IntKind.wrap_i64];omega
         have hp:=HP.out;have HOK:=sH (GW HFB.out HY1.out HRd.out rfl rfl rfl rfl rfl rfl rfl rfl rfl rfl rfl rfl rfl rfl rfl rfl rfl rfl rfl rfl rfl rfl rfl);have ha1:=bQ x.sg.code;have ha2:=bQ x.by_.code;refine aL (fun W=>Fr none wd W) 76 147 [some 145,some 144,some 143,some 142,some 141,some 140,some 139,some 138,some 137,some 136,some 135,some 134,some 133,some 132,some 131,some 130,some 129,some 128,some 127,some 126,some 125,some 124,some 123,some 122,some 121,some 120,some 119,some 118,some 117,some 116,some 115,some 114,some 113,some 112,some 111,some 110,some 109,some 108,some 107,some 106,some 105,some 104,some 103,some 102,some 101,some 100,some 99,some 98,some 97,some 96,some 95,some 94,some 93,some 92,some 91,some 90,some 89,some 88,some 87,some 86,some 85,some 84,some 83,some 82,some 81,some 80,some 79,some 78,some 77,some 76,some 75,some 74,some 73,some 72,some 71,some 70] (by kernel_rfl) (by kernel_rfl) (by kernel_rfl) (Nat.le_refl _) ((Fr.refl _ _).drew) ?_;refine FxL.p [] [7] ?_;refine FxL.p [(0,0,70)] [] ?_;refine FxL.p [(0,1,71)] [] ?_;refine FxL.x 0 [] [5] ?_;have HF1:=sH (fun(w:World) (hS:(fun W=>Fr none wd W) w)=>HK.out w (Fd.pure hS));refine FxL.xq HF1.out 1 [(0,3,73)] [] ?_;refine FxL.x 2 [(0,4,74)] [] ?_;refine FxL.por rfl rfl 3 2 0 5 (by kernel_rfl) rfl rfl ?_;refine FxL.p [(0,6,76)] [] ?_;refine FxL.x 0 [] [5] ?_;refine FxL.xq HF1.out 1 [(0,8,78)] [] ?_;refine FxL.x 2 [] [1] ?_;refine FxL.xq HF1.out 3 [(0,10,80)] [] ?_;refine FxL.x 4 [(2,9,79),(0,11,81)] [] ?_;refine FxL.por rfl rfl 5 7 0 12 (by kernel_rfl) rfl rfl ?_;refine FxL.p [(0,13,83)] [] ?_;refine FxL.x 0 [] [4] ?_;refine FxL.x 1 [(0,15,85)] [] ?_;refine FxL.x 2 [(0,16,86)] [] ?_;refine FxL.x 0 [] [1] ?_;refine FxL.xq HF1.out 1 [(0,18,88)] [] ?_;refine FxL.x 2 [] [4] ?_;refine FxL.gw (u:=?_) rfl 3 rfl (by simp only[aG]<;>rfl) (fun hg ev w hS E=>?_) ?_;rotate_left
         ·obtain⟨t90,ec,ef,eg⟩:=E.get [(0,20,90)] [] (by kernel_rfl);clear E;simp only[aG] at t90
          (try simp only[hg,bG] at t90)
          have hw:=(hml' (iC hg).2).2;go_simp;try with_reducible rfl
         refine FxL.gw (u:=?_) rfl 4 rfl (by simp only[aG]<;>rfl) (fun hg ev w hS E=>?_) ?_;rotate_left
         ·obtain⟨⟨k3,k4⟩,⟨x0,x1,x2,x3,x4,x5,x6,x7,x8⟩,y0⟩:=HK.out w (Fd.pure hS);obtain⟨t89,t91,ec,ef,eg⟩:=E.get [(2,19,89),(0,21,91)] [] (by kernel_rfl);clear E;simp only[aG] at t89 t91
          (try simp only[hg,bG] at t89 t91)
          have hw:=(hml' (iC hg).2).1;go_simp;try with_reducible rfl
         refine FxL.x 5 [(0,22,92)] [] ?_;refine FxL.gw (u:=?_) rfl 6 rfl (by simp only[aG]<;>rfl) (fun hg ev w hS E=>?_) ?_;rotate_left
         ·obtain⟨⟨k3,k4⟩,⟨x0,x1,x2,x3,x4,x5,x6,x7,x8⟩,y0⟩:=HK.out w (Fd.pure hS);obtain⟨t93,ec,ef,eg⟩:=E.get [(0,23,93)] [] (by kernel_rfl);clear E;simp only[aG] at t93
          (try simp only[hg,bG] at t93)
          have hw:=y0 (iC hg).2;go_simp;try with_reducible rfl
         refine FxL.x 7 [] [5] ?_;refine FxL.xq HF1.out 8 [(0,25,95)] [] ?_;refine FxL.x 9 [(2,24,94),(0,26,96)] [] ?_;refine FxL.gpand rfl rfl 13 rfl (by simp only[aG]<;>rfl) 10 17 0 27 (by kernel_rfl) rfl rfl ?_;refine FxL.por rfl rfl 14 14 0 28 (by kernel_rfl) rfl rfl ?_;refine FxL.p [(0,29,99)] [] ?_;refine FxL.x 0 [] [5] ?_;refine FxL.xq HF1.out 1 [(0,31,101)] [] ?_;refine FxL.gwc (u:=?_) (f:=?_) (args:=?_) rfl 2 rfl (by simp only[aG]<;>rfl) (fun hg ev w hS E=>?_) (fun hg w hS=>?_) ?_;rotate_left 3
         ·obtain⟨⟨k3,k4⟩,⟨x0,x1,x2,x3,x4,x5,x6,x7,x8⟩,y0⟩:=HK.out w (Fd.pure hS);obtain⟨t102,ec,ef,eg⟩:=E.get [(0,32,102)] [] (by kernel_rfl);clear E;simp only[aG] at t102
          (try simp only[hg,bG] at t102);go_simp;first|(refine And.intro ?_ ?_<;>with_reducible rfl)|with_reducible rfl
         ·obtain⟨⟨k3,k4⟩,⟨x0,x1,x2,x3,x4,x5,x6,x7,x8⟩,y0⟩:=HK.out w (Fd.pure hS);refine(iR x.sg w).mono ?_;rintro e w2 ⟨rfl,F2⟩;refine⟨?_,hS.pure F2⟩;with_reducible rfl
         refine FxL.x 3 [(0,33,103)] [] ?_;refine FxL.por rfl rfl 4 30 0 34 (by kernel_rfl) rfl rfl ?_;refine FxL.p [(0,35,105)] [] ?_;refine FxL.x 0 [] [5] ?_;refine FxL.xq HF1.out 1 [(0,37,107)] [] ?_;refine FxL.gwc (u:=?_) (f:=?_) (args:=?_) rfl 2 rfl (by simp only[aG]<;>rfl) (fun hg ev w hS E=>?_) (fun hg w hS=>?_) ?_;rotate_left 3
         ·obtain⟨⟨k3,k4⟩,⟨x0,x1,x2,x3,x4,x5,x6,x7,x8⟩,y0⟩:=HK.out w (Fd.pure hS);obtain⟨t108,ec,ef,eg⟩:=E.get [(0,38,108)] [] (by kernel_rfl);clear E;simp only[aG] at t108
          (try simp only[hg,bG] at t108);go_simp;first|(refine And.intro ?_ ?_<;>with_reducible rfl)|with_reducible rfl
         ·obtain⟨⟨k3,k4⟩,⟨x0,x1,x2,x3,x4,x5,x6,x7,x8⟩,y0⟩:=HK.out w (Fd.pure hS);refine(iR x.by_ w).mono ?_;rintro e w2 ⟨rfl,F2⟩;refine⟨?_,hS.pure F2⟩;with_reducible rfl
         refine FxL.x 3 [(0,39,109)] [] ?_;refine FxL.por rfl rfl 4 36 0 40 (by kernel_rfl) rfl rfl ?_;refine FxL.p [(0,41,111)] [] ?_;refine FxL.x 0 [] [5] ?_;refine FxL.xq HF1.out 1 [(0,43,113)] [] ?_;refine FxL.x 2 [] [5] ?_;refine FxL.xq HF1.out 3 [(0,45,115)] [] ?_;refine FxL.gw (u:=.bool (decide (x.sg=x.by_))) rfl 4 rfl (by simp only[aG]<;>rfl) (fun hg ev w hS E=>?_) ?_
         ·obtain⟨t114,t116,ec,ef,eg⟩:=E.get [(2,44,114),(0,46,116)] [] (by kernel_rfl);clear E;simp only[aG] at t114 t116
          (try simp only[hg,bG] at t114 t116);go_simp
          rw[fD];by_cases h1:x.sg.code=x.by_.code<;>by_cases h2:x.sg.iss=x.by_.iss<;>simp[h1,h2]
         refine FxL.por rfl rfl 5 42 0 47 (by kernel_rfl) rfl rfl ?_;refine FxL.p [(0,48,118)] [] ?_;refine FxL.x 0 [] [5] ?_;refine FxL.xq HF1.out 1 [(0,50,120)] [] ?_;refine FxL.x 2 [(0,51,121)] [] ?_;refine FxL.por rfl rfl 3 49 0 52 (by kernel_rfl) rfl rfl ?_;refine FxL.p [(0,53,123)] [] ?_;refine FxL.x 0 [] [5] ?_;refine FxL.xq HF1.out 1 [(0,55,125)] [] ?_;refine FxL.gwc (u:=?_) (f:=?_) (args:=?_) rfl 2 rfl (by simp only[aG]<;>rfl) (fun hg ev w hS E=>?_) (fun hg w hS=>?_) ?_;rotate_left 3
         ·obtain⟨⟨k3,k4⟩,⟨x0,x1,x2,x3,x4,x5,x6,x7,x8⟩,y0⟩:=HK.out w (Fd.pure hS);obtain⟨t126,ec,ef,eg⟩:=E.get [(0,56,126)] [] (by kernel_rfl);clear E;simp only[aG] at t126
          (try simp only[hg,bG] at t126);go_simp;first|(refine And.intro ?_ ?_<;>with_reducible rfl)|with_reducible rfl
         ·obtain⟨⟨k3,k4⟩,⟨x0,x1,x2,x3,x4,x5,x6,x7,x8⟩,y0⟩:=HK.out w (Fd.pure hS);refine(jT x.amt w).mono ?_;rintro e w2 ⟨rfl,F2⟩;refine⟨?_,hS.pure F2⟩;with_reducible rfl
         refine FxL.x 3 [(0,57,127)] [] ?_;refine FxL.por rfl rfl 4 54 0 58 (by kernel_rfl) rfl rfl ?_;refine FxL.p [(0,59,129)] [] ?_;refine FxL.x 0 [] [8] ?_;refine FxL.x 1 [(0,61,131)] [] ?_;refine FxL.por rfl rfl 2 60 0 62 (by kernel_rfl) rfl rfl ?_;refine FxL.p [(0,63,133)] [] ?_;refine FxL.x 0 [] [8] ?_;refine FxL.x 1 [] [5] ?_;refine FxL.xq HF1.out 2 [(0,66,136)] [] ?_;refine FxL.x 3 [(2,65,135),(0,67,137)] [] ?_;refine FxL.por rfl rfl 4 64 0 68 (by kernel_rfl) rfl rfl ?_;refine FxL.p [(0,69,139)] [] ?_;refine FxL.x 0 [] [9] ?_;refine FxL.x 1 [] [5] ?_;refine FxL.xq HF1.out 2 [(0,72,142)] [] ?_;refine FxL.x 3 [(2,71,141),(0,73,143)] [] ?_;refine FxL.por rfl rfl 4 70 0 74 (by kernel_rfl) rfl rfl ?_;refine FxL.done (fun W hW=>?_);simp only[bF];try simp only[sI]
         try simp only[sK]
         rw[List.drop_of_length_le (of_decide_eq_true (by kernel_rfl))];clear ha1 ha2;generalize hb:((((((((((((!FB||decide (x.id<1))||decide (g.nid≤x.id))||(p&&decide (x.id≤y.id)))|| !aV x.sg)|| !aV x.by_)||decide (x.sg=x.by_))||decide (x.amt<1))|| !aX x.amt)||n1 == 0)||n1 !=x.num)||n2 !=x.den))=big at HOK ⊢;clear hb;have Fe:=hW;cases big
         ·have FF:=F.pure (Fa.pure (Fd.pure Fe));have HX:=sH (HYes.out HOK.out);go_wp2_with fail;go_roundw
          case rel=>(first|exact⟨_,hlt,by go_num,HX,FF⟩|((repeat apply Exists.intro);exact⟨⟨_,hlt,by go_num,HX,FF⟩,rfl⟩))
          case measure=>simp[intOf];omega
         have FF:=F0a.pure (Fd.pure Fe);have HX:=sH (HNo.out HOK.out);go_wp2;go_ret;exact⟨aM HX.out.symm,FF⟩
        have HX:Hid (V=0):=by
         unfold Hid;rw[HVl.out,if_pos (eZ fun k hk=>HJ.out k hk (by omega))]
        have FF:=F0z;go_wp2;go_ret;exact⟨aM HX.out.symm,FF⟩
      have e4:decide (1000000<g.num)=true:=decide_eq_true (by omega);have HX:Hid (V=74):=by
       unfold Hid;rw[HV2.out,if_neg (fun e=>by have e:=e.1;unfold dI at e;simp only[Bool.and_eq_true,decide_eq_true_eq] at e;omega)]
      clear hq;go_wp2;go_ret;exact⟨aM HX.out.symm,FF⟩
     have e3:decide (g.num<0)=true:=decide_eq_true (by omega);have HX:Hid (V=74):=by
      unfold Hid;rw[HV2.out,if_neg (fun e=>by have e:=e.1;unfold dI at e;simp only[Bool.and_eq_true,decide_eq_true_eq] at e;omega)]
     clear hq;go_wp2;go_ret;exact⟨aM HX.out.symm,FF⟩
   have e2:decide (1000000<g.nid)=true:=decide_eq_true (by omega);have HX:Hid (V=74):=by
    unfold Hid;rw[HV2.out,if_neg (fun e=>by have e:=e.1;unfold dI at e;simp only[Bool.and_eq_true,decide_eq_true_eq] at e;omega)]
   go_wp2;go_ret;exact⟨aM HX.out.symm,FF⟩
  have e1:decide (g.nid<1)=true:=decide_eq_true (by omega);have HX:Hid (V=74):=by
   unfold Hid;rw[HV2.out,if_neg (fun e=>by have e:=e.1;unfold dI at e;simp only[Bool.and_eq_true,decide_eq_true_eq] at e;omega)]
  go_wp2;go_ret;exact⟨aM HX.out.symm,FF⟩
 have HX:Hid (V=CL):=by unfold Hid;rw[HV.out];unfold aH;rw[if_pos (fun e=>hA (by rw[HCL.out,e])),HCL.out]
 have hq:(CL == 0)=false:=by rw[beq_eq_false_iff_ne];exact hA
 clear hA;go_wp2;go_ret;exact⟨aM HX.out.symm,FF⟩
theorem DT(a b:Int):(a == b)=decide (a=b):=by rw[Bool.eq_iff_iff];simp
theorem xC(g:Lgr)(va vl vo:Value)(w:World)(h:LgS w none g va vl vo):Calls Tryz.prog 87 #[.agg #[.int .i64 g.num,va,vl,vo,.int .i64 g.nid,.int .i64 g.fees,.int .u64 (g.link:Int)]] w fun e w'=>e= .returned (.bool (decide (bW g.lines g.accs=0)))∧Fr none w w':=by
 obtain⟨h1,h2,_⟩:=h;obtain⟨A1,c1,rfl,_,_,_⟩:=aN h1;obtain⟨A2,c2,rfl,_,_,_⟩:=aU h2;have H1:=sH h1;have H2:=sH h2;clear h1 h2;go_enter Tryz.func87,Tryz.ntmps87;go_upto_region 1 with(fail)
 generalize hW:w.alloc _=w1;have F1:Fr none w w1:=hW▸(Fr.refl none w).alloc _;have b1:w1.heap[w.heap.size]?=some (.cells #[.int .i64 g.num,.slice A1 g.accs.length c1,.slice A2 g.lines.length c2,vo,.int .i64 g.nid,.int .i64 g.fees,.int .u64 (g.link:Int)] 30 (0,0)):=by rw[←hW];exact aD _ _
 have r1:w1.cell? ⟨w.heap.size,1,none⟩=some (.slice A1 g.accs.length c1):=by rw[aA b1];rfl
 have r2:w1.cell? ⟨w.heap.size,2,none⟩=some (.slice A2 g.lines.length c2):=by rw[aA b1];rfl
 have l1:=aC b1;clear hW b1;go_wp2_with fail;refine(qZ g.lines g.accs _ _ w1 (H2.out.fr F1) (H1.out.fr F1)).mono ?_;rintro e w2 ⟨rfl,F2⟩;go_wp2;go_ret;exact⟨aJ (DT _ _),F1.pure F2⟩
theorem zX(g:Lgr)(va vl vo:Value)(acc:Int)(a:Ast)(w:World)(h:LgS w none g va vl vo):Calls Tryz.prog 53 #[.agg #[.int .i64 g.num,va,vl,vo,.int .i64 g.nid,.int .i64 g.fees,.int .u64 (g.link:Int)],.int .i64 acc,.agg #[.string (bL a.code),.int .i64 a.iss]] w fun e w'=>e= .returned (.int .i64 (fG g acc a))∧Fr none w w':=by
 obtain⟨V,hV⟩:∃V,V=fG g acc a:=⟨_,rfl⟩;rw[←hV];have HV:=sH hV;clear hV;obtain⟨A1,c1,rfl,_,_,_⟩:=aN h.1;obtain⟨A2,c2,rfl,_,_,_⟩:=aU h.2.1;have HG:=sH h;clear h;go_enter Tryz.func53,Tryz.ntmps53;go_upto_region 1 with(fail)
 generalize hW:(w.alloc _).alloc _=w1;have F1:Fr none w w1:=hW▸((Fr.refl none w).alloc _).alloc _;have b3:w1.heap[w.heap.size]?=some (.cells #[.int .i64 g.num,.slice A1 g.accs.length c1,.slice A2 g.lines.length c2,vo,.int .i64 g.nid,.int .i64 g.fees,.int .u64 (g.link:Int)] 30 (0,0)):=by rw[←hW];exact aF (aD _ _) ((Fr.refl none _).alloc _) (by simp)
 have b5:CL2 w1 (w.heap.size+1) (.string (bL a.code)) (.int .i64 a.iss) 46:=by rw[←hW];exact eT (by simp) _
 clear hW;have r1:w1.cell? ⟨w.heap.size,1,none⟩=some (.slice A1 g.accs.length c1):=by rw[aA b3];rfl
 have l3:=aC b3;have l5:=aC b5;go_wp2_with fail;refine(fM g.accs _ acc w1 (HG.out.1.fr F1)).mono ?_;rintro e w2 ⟨rfl,F2⟩;have hfs:=dY g.accs acc;have hff:∀x,aK g.accs acc=some x→(dR g.accs acc).1=x:=fun x e=>by unfold dR;rw[e]
 generalize dR g.accs acc=R at*
 obtain⟨⟨f1,f2,f3⟩,FB⟩:=R;have HFB:Hid (FB=(aK g.accs acc).isSome):=hfs;have HFF:Hid (∀x,aK g.accs acc=some x→f2=x.bal):=fun x e=>by rw[←hff x e]
 clear hfs hff r1;simp only[xB];have F02:=F1.pure F2;have b3:=aF b3 F2 (by simp);have b5:=b5.fr F2;go_upto_region 2 with(fail)
 generalize hW:w2.alloc _=w3;have F3:Fr none w2 w3:=hW▸(Fr.refl none w2).alloc _;have b7:w3.heap[w2.heap.size]?=some (.cells #[.int .i64 f1,.int .i64 f2,.int .i64 f3] 59 (0,0)):=by rw[←hW];exact aD _ _
 clear hW;have b3:=aF b3 F3 (by simp);have b5:=b5.fr F3;have F03:=F02.pure F3;have HK:Hid (∀W,Fr none w3 W→(W.cell? ⟨w.heap.size,0,none⟩=some (.int .i64 g.num)∧W.cell? ⟨w.heap.size,1,none⟩=some (.slice A1 g.accs.length c1)∧W.cell? ⟨w.heap.size,2,none⟩=some (.slice A2 g.lines.length c2)∧W.cell? ⟨w.heap.size,3,none⟩=some vo∧W.cell? ⟨w.heap.size,4,none⟩=some (.int .i64 g.nid)∧W.cell? ⟨w.heap.size,5,none⟩=some (.int .i64 g.fees)∧W.cell? ⟨w.heap.size,6,none⟩=some (.int .u64 (g.link:Int)))∧(W.cell? ⟨w.heap.size+1,0,none⟩=some (.string (bL a.code))∧W.cell? ⟨w.heap.size+1,1,none⟩=some (.int .i64 a.iss))∧W.cell? ⟨w2.heap.size,1,none⟩=some (.int .i64 f2)):=fun W FW=>by
  have q3:=aF b3 FW (by simp);have q5:=b5.fr FW;have q7:=aF b7 FW (by simp);exact⟨⟨by rw[aA q3];rfl,by rw[aA q3];rfl,by rw[aA q3];rfl,by rw[aA q3];rfl,by rw[aA q3];rfl,by rw[aA q3];rfl,by rw[aA q3];rfl⟩,q5.cell,by rw[aA q7];rfl⟩
 clear b3 b5 b7 F1 F2 F3 F02;obtain⟨⟨k0,k1,k2,k3,k4,k5,k6⟩,⟨k7,k8⟩,k9⟩:=HK.out w3 (Fr.refl _ _);go_wp2_with fail;refine(xC g _ _ _ w3 (HG.out.fr F03)).mono ?_;rintro e w4 ⟨rfl,F4⟩;clear k0 k1 k2 k3 k4 k5 k6 k7 k8 k9;by_cases hr:bW g.lines g.accs=0
 ·rw[decide_eq_true hr];have HR:=sH hr;clear hr;cases FB with
  |false=>
   have HX:Hid (V=0):=by
    unfold Hid;rw[HV.out];unfold fG;rw[if_neg (fun e=>e HR.out)];cases hq:aK g.accs acc with
    |none=>rfl
    |some x=>have:=HFB.out;rw[hq] at this;cases this
   have FF:=F03.pure F4;go_wp2;go_ret;exact⟨aM HX.out.symm,FF⟩
  |true=>
   obtain⟨x,hx⟩:∃x,aK g.accs acc=some x:=by
    cases hq:aK g.accs acc with
    |none=>have:=HFB.out;rw[hq] at this;cases this
    |some x=>exact⟨x,rfl⟩
   have HB:=sH (HFF.out x hx);have HVx:Hid (V=if aV a=false then 0 else if a=nat then x.bal else if a.iss=acc then 1000000000000 else match bS g.lines acc a with
    |some l=>l.bal
    |none=>0):=by
    unfold Hid;rw[HV.out];unfold fG;rw[if_neg (fun e=>e HR.out),hx];rfl
   clear hx;obtain⟨⟨k0,k1,k2,k3,k4,k5,k6⟩,⟨k7,k8⟩,k9⟩:=HK.out w4 F4;go_wp2_with fail;refine(iR a w4).mono ?_;rintro e w5 ⟨rfl,F5⟩;have F45:=F4.pure F5;clear k0 k1 k2 k3 k4 k5 k6 k7 k8 k9;cases hv:aV a with
   |false=>
    have HX:Hid (V=0):=by unfold Hid;rw[HVx.out,if_pos hv]
    have FF:=F03.pure F45;clear hv;go_wp2;go_ret;exact⟨aM HX.out.symm,FF⟩
   |true=>
    have HVy:Hid (V=if a=nat then x.bal else if a.iss=acc then 1000000000000 else match bS g.lines acc a with
     |some l=>l.bal
     |none=>0):=by unfold Hid;rw[HVx.out,if_neg (by rw[hv];simp)]
    clear hv;obtain⟨⟨k0,k1,k2,k3,k4,k5,k6⟩,⟨k7,k8⟩,k9⟩:=HK.out w5 F45;go_wp2_with fail;refine(lQ a w5).mono ?_;rintro e w6 ⟨rfl,F6⟩;have F46:=F45.pure F6;clear k0 k1 k2 k3 k4 k5 k6 k7 k8 k9;obtain⟨⟨k0,k1,k2,k3,k4,k5,k6⟩,⟨k7,k8⟩,k9⟩:=HK.out w6 F46;have FF:=F03.pure F46;by_cases hn:a=nat
    ·have HX:Hid (V=f2):=by unfold Hid;rw[HVy.out,if_pos hn,HB.out]
     rw[decide_eq_true hn];clear hn;go_wp2;go_ret;exact⟨aM HX.out.symm,FF⟩
    have HVz:Hid (V=if a.iss=acc then 1000000000000 else match bS g.lines acc a with
     |some l=>l.bal
     |none=>0):=by unfold Hid;rw[HVy.out,if_neg hn]
    rw[decide_eq_false hn];clear hn;by_cases hi:a.iss=acc
    ·have HX:Hid (V=1000000000000):=by unfold Hid;rw[HVz.out,if_pos hi]
     have e1:(a.iss == acc)=true:=by rw[beq_iff_eq];exact hi
     clear hi;go_wp2;go_ret;exact⟨aM HX.out.symm,FF⟩
    have HX:Hid (V=(fP g.lines acc a).1.bal):=by
     unfold Hid;rw[HVz.out,if_neg hi];unfold fP;cases bS g.lines acc a<;>rfl
    have e1:(a.iss == acc)=false:=by rw[beq_eq_false_iff_ne];exact hi
    clear hi;go_wp2_with fail;refine(pF g.lines _ acc a w6 (HG.out.2.1.fr FF)).mono ?_;rintro e w7 ⟨rfl,F7⟩;generalize fP g.lines acc a=R2 at*
    obtain⟨⟨z1,z2,z3,z4⟩,z5⟩:=R2;simp only[lnV];clear k0 k1 k2 k3 k4 k5 k6 k7 k8 k9;go_upto_region 9 with(fail)
    generalize hW:w7.alloc _=w8;have F8:Fr none w7 w8:=hW▸(Fr.refl none w7).alloc _;have b9:w8.heap[w7.heap.size]?=some (.cells #[.int .i64 z1,.string (bL z2.code),.int .i64 z2.iss,.int .i64 z3,.int .i64 z4] 74 (0,0)):=by rw[←hW];exact aD _ _
    have r3:w8.cell? ⟨w7.heap.size,3,none⟩=some (.int .i64 z3):=by rw[aA b9];rfl
    have l9:=aC b9;clear hW b9;have FF:=(FF.pure F7).pure F8;go_wp2;go_ret;exact⟨aM HX.out.symm,FF⟩
 have HX:Hid (V=0):=by unfold Hid;rw[HV.out];unfold fG;rw[if_pos hr]
 rw[decide_eq_false hr];clear hr;have FF:=F03.pure F4;go_wp2;go_ret;exact⟨aM HX.out.symm,FF⟩
theorem Bx(l:List Ln)(acc:Int)(a:Ast):(fP l acc a).2=(bS l acc a).isSome:=by
 unfold fP;cases bS l acc a<;>rfl
theorem pG(g:Lgr)(va vl vo:Value)(acc:Int)(a:Ast)(w:World)(h:LgS w none g va vl vo):Calls Tryz.prog 52 #[.agg #[.int .i64 g.num,va,vl,vo,.int .i64 g.nid,.int .i64 g.fees,.int .u64 (g.link:Int)],.int .i64 acc,.agg #[.string (bL a.code),.int .i64 a.iss]] w fun e w'=>e= .returned (.bool (dV g acc a))∧Fr none w w':=by
 obtain⟨V,hV⟩:∃V,V=dV g acc a:=⟨_,rfl⟩;rw[←hV];have HV:=sH hV;clear hV;obtain⟨A2,c2,rfl,_,_,_⟩:=aU h.2.1;have HG:=sH h;clear h;go_enter Tryz.func52,Tryz.ntmps52;go_upto_region 1 with(fail)
 generalize hW:(w.alloc _).alloc _=w1;have F1:Fr none w w1:=hW▸((Fr.refl none w).alloc _).alloc _;have b3:w1.heap[w.heap.size]?=some (.cells #[.int .i64 g.num,va,.slice A2 g.lines.length c2,vo,.int .i64 g.nid,.int .i64 g.fees,.int .u64 (g.link:Int)] 30 (0,0)):=by rw[←hW];exact aF (aD _ _) ((Fr.refl none _).alloc _) (by simp)
 have b5:CL2 w1 (w.heap.size+1) (.string (bL a.code)) (.int .i64 a.iss) 46:=by rw[←hW];exact eT (by simp) _
 clear hW;have r1:w1.cell? ⟨w.heap.size,2,none⟩=some (.slice A2 g.lines.length c2):=by rw[aA b3];rfl
 have l3:=aC b3;have l5:=aC b5;obtain⟨k7,k8⟩:=b5.cell;go_wp2_with fail;refine(pF g.lines _ acc a w1 (HG.out.2.1.fr F1)).mono ?_;rintro e w2 ⟨rfl,F2⟩;have hfs:=Bx g.lines acc a;generalize fP g.lines acc a=R at*
 obtain⟨⟨z1,z2,z3,z4⟩,FB⟩:=R;have HFB:Hid (FB=(bS g.lines acc a).isSome):=hfs;clear hfs r1 k7 k8 b3 l3;simp only[lnV];have F02:=F1.pure F2;have b5:=b5.fr F2;go_upto_region 2 with(fail)
 generalize hW:w2.alloc _=w3;have F3:Fr none w2 w3:=hW▸(Fr.refl none w2).alloc _;clear hW;have b5:=b5.fr F3;have F03:=F02.pure F3;have l5:=aC b5;obtain⟨k7,k8⟩:=b5.cell;go_wp2_with fail;refine(lQ a w3).mono ?_;rintro e w4 ⟨rfl,F4⟩;have b5:=b5.fr F4;have FF:=F03.pure F4;clear k7 k8 l5 F1 F2 F3 F4 F02 F03;have l5:=aC b5;obtain⟨k7,k8⟩:=b5.cell;by_cases hn:a=nat
 ·have HX:Hid (V=true):=by unfold Hid;rw[HV.out];unfold dV;rw[decide_eq_true hn];rfl
  rw[decide_eq_true hn];clear hn;go_wp2;go_ret;exact⟨aJ HX.out.symm,FF⟩
 rw[decide_eq_false hn];by_cases hi:a.iss=acc
 ·have HX:Hid (V=true):=by unfold Hid;rw[HV.out];unfold dV;rw[decide_eq_true hi];simp
  have e1:(a.iss == acc)=true:=by rw[beq_iff_eq];exact hi
  clear hi hn;go_wp2;go_ret;exact⟨aJ HX.out.symm,FF⟩
 have HX:Hid (V=FB):=by unfold Hid;rw[HV.out,HFB.out];unfold dV;rw[decide_eq_false hi,decide_eq_false hn];rfl
 have e1:(a.iss == acc)=false:=by rw[beq_eq_false_iff_ne];exact hi
 clear hi hn;go_wp2;go_ret;exact⟨aJ HX.out.symm,FF⟩
end Go.Proofs.YthaggndnfamhjaaGreatDoor
