/- Texts, joined. -/
import Derived.Test.YthaggndnfamhjaaGreatDoorProg
import Derived.Test.YthaggndnfamhjaaGreatDoorJK35
import Derived.Test.YthaggndnfamhjaaGreatDoorJA

set_option linter.unusedSimpArgs false
set_option linter.unusedVariables false
set_option maxRecDepth 100000
set_option maxHeartbeats 16000000
namespace Go.Proofs.YthaggndnfamhjaaGreatDoor
open Go.RowKit
def NwB(r:(Lgr × Int) × Int)(w:World)(e:Ending)(w':World):Prop:=∃Aa na ca Al nl cl Ao no co,e= .returned (.tuple #[.agg #[.int .i64 r.1.1.num,.slice Aa na ca,.slice Al nl cl,.slice Ao no co,.int .i64 r.1.1.nid,.int .i64 r.1.1.fees,.int .u64 (r.1.1.link:Int)],.int .i64 r.1.2,.int .i64 r.2])∧(r.2=0→LgS w' none r.1.1 (.slice Aa na ca) (.slice Al nl cl) (.slice Ao no co))∧Fr none w w'
theorem OwG.lgsr{w:World}{base:Nat}{g:Lgr}{va vl vo:Value}{r:Option Nat}(h:OwG w base g va vl vo)(k:kG g)(hr:∀x,r=some x→x<base):LgS w r g va vl vo:=
 ⟨SlR.of_own h.a hr k.1,SlR.of_own h.l hr k.2.1,SlR.of_own h.o hr k.2.2.1,k.2.2.2⟩
theorem SlR.both{α:Type}{R:Rec α}{w w':World}{r1 r2:Option Nat}{v:Value}{l:List α}(h1:SlR R w r1 v l)(h2:SlR R w r2 v l)(F:Fr r1 w w'):SlR R w' r2 v l:=by
 obtain⟨⟨A,n,c,rfl,hl,hc,hm,hx⟩,ok⟩:=h1;obtain⟨⟨A',n',c',e,hl',hc',hm',hx'⟩,_⟩:=h2;cases e;refine⟨⟨A,n,c,rfl,hl,hc,hm,fun hn=>?_⟩,ok⟩;obtain⟨b,off,hA,hD,hcells⟩:=hx hn;obtain⟨b',off',hA',hD',_⟩:=hx' hn;rw[hA] at hA';cases hA';exact⟨b,off,hA,⟨Nat.lt_of_lt_of_le hD.1 F.size,hD'.2⟩,fun j u hu=>F.keep (hcells j u hu) hD.2⟩
theorem LgS.both{w w':World}{r1 r2:Option Nat}{g:Lgr}{va vl vo:Value}(h1:LgS w r1 g va vl vo)(h2:LgS w r2 g va vl vo)(F:Fr r1 w w'):LgS w' r2 g va vl vo:=⟨h1.1.both h2.1 F,h1.2.1.both h2.2.1 F,h1.2.2.1.both h2.2.2.1 F,h1.2.2.2⟩
theorem CK{α:Type}{l:List α}{i:Nat}(hi:i+1<l.length):(l.take (i+1+1)).reverse=l[i+1]::l[i]::(l.take i).reverse:=by
 rw[List.take_succ_eq_append_getElem hi,List.take_succ_eq_append_getElem (show i<l.length by omega)];simp
theorem AV{α:Type}{l:List α}{i:Nat}(hi:i<l.length):(l.take (i+1)).reverse=l[i]::(l.take i).reverse:=by
 rw[List.take_succ_eq_append_getElem hi];simp
theorem CM(frm:Int)(l:List Ast)(h:l.length≤1)(g:Lgr)(n:Int):cR frm l g n=((g,n),0):=by
 match l,h with
 |[],_=>rfl
 |[_],_=>rfl
 |_::_::_,h=>simp at h
theorem wH(frm:Int)(x y:Ast)(r:List Ast)(g:Lgr)(n:Int):cR frm (x::y::r) g n=if x=y then cR frm (y::r) g n else
  if(crs g frm x y n 1000000000000).2≠0 then((lg0,0),(crs g frm x y n 1000000000000).2) else
  if(crs g frm x y n 1000000000000).1.2.1<n then((lg0,0),73) else
  cR frm (y::r) (crs g frm x y n 1000000000000).1.1 (crs g frm x y n 1000000000000).1.2.2:=by rw[cR]
theorem CN{g:Lgr}{taker:Int}{get give:Ast}{n most:Int}(h:(crs g taker get give n most).2=0)(k:kG g):kG (crs g taker get give n most).1.1:=by
 obtain⟨h1,h2⟩:=pT h;exact jG h1 (by rw[h2.2.2.2.1];exact k.2.2.2.2.2.2)
theorem tw3{p:Prop}(h:p:=by
 clear q1 hgg;have r0:World.cell? wc ⟨w.heap.size,0,none⟩=some (.int .i64 frm):=by rw[aA hrt];rfl
 go_wp2_with fail;refine(CD gi _ _ _ frm gc gv nd 1000000000000 wc HLI.out.1.weak).mono ?_;rintro e w4 ⟨va',vl',vo',rfl,og,F4⟩;clear r0 a0 a1 a2 a3 k0 k1 k2 k3 k4 k5 k6;have HKD:Hid ((crs gi frm gc gv nd 1000000000000).2=0→aH (crs gi frm gc gv nd 1000000000000).1.1=0∧kG (crs gi frm gc gv nd 1000000000000).1.1):=fun h0=>⟨(pT h0).1,CN h0 HLI.out.1.ok⟩;generalize crs gi frm gc gv nd 1000000000000=D at*
 obtain⟨⟨gd,bo,co9⟩,ed⟩:=D;dsimp only at og HST HKD ⊢;obtain⟨A4,c4,rfl⟩:=aO og.a;obtain⟨A5,c5,rfl⟩:=aO og.l;obtain⟨A6,c6,rfl⟩:=aO og.o;have HLI:=sH (And.intro (HLI.out.1.fr F4.mono) (HLI.out.2.fr F4.mono));have HSW:Hid (w.heap.size+2<wc.heap.size):=Nat.lt_of_lt_of_le hbw FS.size;have FS:=FS.add F4 (by simp);have hlg:=hlg.fr F4;have hrb:=hrb.fr F4;have hrt:=aF hrt F4 (by simp);have hga:=hga.fr F4;have hgb:=hgb.fr F4;have HOG:=sH og;clear F4 og;go_upto_region 7 with(fail)
 generalize hW:w4.alloc _=w5;have F5:Fr none w4 w5:=hW▸(Fr.refl none w4).alloc _;have hdb:LgB w5 w4.heap.size gd (.slice A4 gd.accs.length c4) (.slice A5 gd.lines.length c5) (.slice A6 gd.offers.length c6):=by rw[←hW];exact aD _ _
 clear hW;have HOG:=sH (HOG.out.fr F5);have HLI:=sH (And.intro (HLI.out.1.fr F5.mono) (HLI.out.2.fr F5.mono));have hbw4:w.heap.size+1<w4.heap.size:=by have:=FS.size;omega
 have FS:=FS.add F5 (by simp);have hlg:=hlg.fr F5;have hrb:=hrb.fr F5;have hrt:=aF hrt F5 (by simp);clear F5 hga hgb;by_cases h0:ed=0
 ·subst h0;have HST:=sH (HST.out.trans (if_neg (by simp)));obtain⟨hk1,hk2⟩:=HKD.out rfl;have HK1:=sH hk1;have HK2:=sH hk2;clear hk1 hk2 HKD;by_cases hbn:bo<nd
  ·have HX:=sH (HST.out.trans (if_pos hbn));have hq:decide (bo<nd)=true:=decide_eq_true hbn;have HNZ:Hid ((73:Int)≠0):=by unfold Hid;decide
   clear hbn HST;obtain⟨m0,m1,m2,m3,m4,m5,m6,y0,y1,y2,y3,y4,y5,y6,ml⟩:=LgB.zc hrb;go_wp2;refine bodyPost_ret (v:=.tuple #[.agg #[.int .i64 0,.slice none 0 0,.slice none 0 0,.slice none 0 0,.int .i64 0,.int .i64 0,.int .u64 0],.int .i64 0,.int .i64 73]) (by simp[results,Tryz.results121,go_sem,m0,m1,m2,m3,m4,m5,m6]) rfl ?_;have F9:=(aW (g:=lg0) (va:=.slice none 0 0) (vl:=.slice none 0 0) (vo:=.slice none 0 0) hrb).1;exact⟨none,0,0,none,0,0,none,0,0,by rw[HX.out]<;>rfl,fun e=>absurd ((congrArg Prod.snd HX.out).symm.trans e) HNZ.out,(FrS.own HF1.out FS (by intro x hx h;omega)).own F9⟩
  have HST:=sH (HST.out.trans (if_neg hbn));have hq:decide (bo<nd)=false:=decide_eq_false hbn;clear hbn;obtain⟨q0,q1,q2,q3,q4,q5,q6⟩:=hdb.cells;obtain⟨k0,k1,k2,k3,k4,k5,k6⟩:=hlg.cells;have z0:=aB hlg 0;have z1:=aB hlg 1;have z2:=aB hlg 2;have z3:=aB hlg 3;have z4:=aB hlg 4;have z5:=aB hlg 5;have z6:=aB hlg 6;have zl:=aC hlg;have hw1':wrap64 ((i:Int))=(i:Int):=fV (by omega) (by omega);go_upto_region 3 with(fail)
  generalize hW:(((((((w5.setCell ⟨w.heap.size+1,0,none⟩ (.int .i64 gd.num)).setCell ⟨w.heap.size+1,1,none⟩ (.slice A4 gd.accs.length c4)).setCell ⟨w.heap.size+1,2,none⟩ (.slice A5 gd.lines.length c5)).setCell ⟨w.heap.size+1,3,none⟩ (.slice A6 gd.offers.length c6)).setCell ⟨w.heap.size+1,4,none⟩ (.int .i64 gd.nid)).setCell ⟨w.heap.size+1,5,none⟩ (.int .i64 gd.fees)).setCell ⟨w.heap.size+1,6,none⟩ (.int .u64 (gd.link:Int)))=w6;obtain⟨F6,hlg6⟩:Fr (some (w.heap.size+1)) w5 w6∧LgB w6 (w.heap.size+1) gd (.slice A4 gd.accs.length c4) (.slice A5 gd.lines.length c5) (.slice A6 gd.offers.length c6):=by rw[←hW];exact aW hlg
  clear hW k0 k1 k2 k3 k4 k5 k6 q0 q1 q2 q3 q4 q5 q6 z0 z1 z2 z3 z4 z5 z6 zl hdb;have HL5:Hid (LgS w5 (some (w.heap.size+1)) gd (.slice A4 gd.accs.length c4) (.slice A5 gd.lines.length c5) (.slice A6 gd.offers.length c6)∧LgS w5 (some (w.heap.size+2)) gd (.slice A4 gd.accs.length c4) (.slice A5 gd.lines.length c5) (.slice A6 gd.offers.length c6)):=⟨HOG.out.lgsr HK2.out (fun x e=>by injection e with e;have:=HSW.out;omega),HOG.out.lgsr HK2.out (fun x e=>by injection e with e;have:=HSW.out;omega)⟩;have HL6:Hid (LgS w6 (some (w.heap.size+1)) gd (.slice A4 gd.accs.length c4) (.slice A5 gd.lines.length c5) (.slice A6 gd.offers.length c6)∧LgS w6 (some (w.heap.size+2)) gd (.slice A4 gd.accs.length c4) (.slice A5 gd.lines.length c5) (.slice A6 gd.offers.length c6)):=⟨HL5.out.1.fr F6,HL5.out.1.both HL5.out.2 F6⟩;have FS:=FS.add F6 (by simp);have HST:Hid (V=cR frm ((CH.take (i+1)).reverse) gd co9):=by unfold Hid;rw[HST.out,HRV.out]
  clear F6 hlg HL5 HLI;go_wp2_with fail;go_roundw
  case rel=>exact⟨i,gd,co9,A4,A5,A6,c4,c5,c6,by omega,by go_num,rfl,HST,HK1,hlg6,HL6,FS⟩
  case measure=>simp[intOf]<;>omega
 have HX:=sH (HST.out.trans (if_pos h0));have hq:(ed !=0)=true:=by simp[h0]
 have HNZ:=sH h0;clear h0 HST;obtain⟨m0,m1,m2,m3,m4,m5,m6,y0,y1,y2,y3,y4,y5,y6,ml⟩:=LgB.zc hrb;go_wp2;refine bodyPost_ret (v:=.tuple #[.agg #[.int .i64 0,.slice none 0 0,.slice none 0 0,.slice none 0 0,.int .i64 0,.int .i64 0,.int .u64 0],.int .i64 0,.int .i64 ed]) (by simp[results,Tryz.results121,go_sem,m0,m1,m2,m3,m4,m5,m6]) rfl ?_;have F9:=(aW (g:=lg0) (va:=.slice none 0 0) (vl:=.slice none 0 0) (vo:=.slice none 0 0) hrb).1;exact⟨none,0,0,none,0,0,none,0,0,by rw[HX.out]<;>rfl,fun e=>absurd ((congrArg Prod.snd HX.out).symm.trans e) HNZ.out,(FrS.own HF1.out FS (by intro x hx h;omega)).own F9⟩):p:=h
theorem CO(frm:Int)(CH:List Ast)(ch:Value)(g:Lgr)(va vl vo:Value)(need:Int)(w:World)(h:LgS w none g va vl vo)(hc:SlR cB w none ch CH)(hl:CH.length≤1000)(h1:1≤CH.length)(hk:aH g=0):Calls Tryz.prog 121 #[.agg #[.int .i64 frm,ch],.agg #[.int .i64 g.num,va,vl,vo,.int .i64 g.nid,.int .i64 g.fees,.int .u64 (g.link:Int)],.int .i64 need] w (NwB (cR frm CH.reverse g need) w):=by
 obtain⟨V,hV⟩:∃V,V=cR frm CH.reverse g need:=⟨_,rfl⟩;rw[←hV];have HV:=sH hV;clear hV;obtain⟨A1,c1,rfl, -, -, -⟩:=aN h.1;obtain⟨A2,c2,rfl, -, -, -⟩:=aU h.2.1;obtain⟨A3,c3,rfl, -, -, -⟩:=bA h.2.2.1;obtain⟨Ac,cc,rfl, -, -,hcc⟩:=iJ hc;obtain⟨bc,offc,rfl,hbc,_,hcell⟩:=hcc (by omega);have HC:=sH hcell;have HG:=sH h;have HK:=sH hk;clear h hc hcc hcell hk;go_enter Tryz.func121,Tryz.ntmps121;go_upto_region 1 with(fail)
 generalize hW:((w.alloc _).alloc _).alloc _=w1;obtain⟨F1,hrt,hlg,hrb⟩:Fr none w w1∧w1.heap[w.heap.size]?=some (.cells #[.int .i64 frm,.slice (some ⟨bc,offc,none⟩) CH.length cc] 162 (0,0))∧LgB w1 (w.heap.size+1) g (.slice A1 g.accs.length c1) (.slice A2 g.lines.length c2) (.slice A3 g.offers.length c3)∧LgB w1 (w.heap.size+2) lg0 (.slice none 0 0) (.slice none 0 0) (.slice none 0 0):=by rw[←hW];exact eS w _ _ _
 clear hW;obtain⟨m,hm⟩:∃m,CH.length=m+1:=⟨CH.length - 1,by omega⟩;have hw1:wrap64 ((CH.length:Int) - 1)=(m:Int):=by have:=fV (z:=(m:Int)) (by omega) (by omega);rw[show(CH.length:Int) - 1=(m:Int) by omega];exact this
 have r0:w1.cell? ⟨w.heap.size,0,none⟩=some (.int .i64 frm):=by rw[aA hrt];rfl
 have r1:w1.cell? ⟨w.heap.size,1,none⟩=some (.slice (some ⟨bc,offc,none⟩) CH.length cc):=by rw[aA hrt];rfl
 have hsl:=aC hrt;have HLG:Hid (LgS w1 (some (w.heap.size+1)) g (.slice A1 g.accs.length c1) (.slice A2 g.lines.length c2) (.slice A3 g.offers.length c3)∧LgS w1 (some (w.heap.size+2)) g (.slice A1 g.accs.length c1) (.slice A2 g.lines.length c2) (.slice A3 g.offers.length c3)):=⟨HG.out.fresh F1 (Nat.le_succ _),HG.out.fresh F1 (by omega)⟩;have HF1:=sH F1;have hbw:w.heap.size+2<w1.heap.size:=aC hrb;have HRT:=sH hrt;have HRB:=sH hrb;have HCM:=sH hm;go_wp2_with fail;clear hw1 r0 r1;have HST:Hid (V=cR frm ((CH.take (m+1)).reverse) g need):=by unfold Hid;rw[HV.out,List.take_of_length_le (by omega)]
 clear hm hrt hrb F1;go_loopw [2,9] (fun s2 s9 wr=>∃(i:Nat) (gi:Lgr) (nd:Int) (Aa Al Ao:Option Addr) (ca cl co:Nat),i<CH.length∧s9= .int .i64 (i:Int)∧s2= .int .i64 nd∧Hid (V=cR frm ((CH.take (i+1)).reverse) gi nd)∧Hid (aH gi=0)∧LgB wr (w.heap.size+1) gi (.slice Aa gi.accs.length ca) (.slice Al gi.lines.length cl) (.slice Ao gi.offers.length co)∧Hid (LgS wr (some (w.heap.size+1)) gi (.slice Aa gi.accs.length ca) (.slice Al gi.lines.length cl) (.slice Ao gi.offers.length co)∧LgS wr (some (w.heap.size+2)) gi (.slice Aa gi.accs.length ca) (.slice Al gi.lines.length cl) (.slice Ao gi.offers.length co))∧FrS (fun x=>x=w.heap.size+1) w1 wr) (fun _ s9 _=>(intOf s9).toNat)
 case atStart=>exact⟨m,g,need,A1,A2,A3,c1,c2,c3,by have:=HCM.out;omega,rfl,rfl,HST,HK,hlg,HLG,FrS.of (Fr.refl none _) (by simp)⟩
 case round=>
  clear hlg;obtain⟨i,gi,nd,Aa,Al,Ao,ca,cl,co,hi,rfl,rfl,HVI,HKI,hlg,HLI,FS⟩:=hrel;obtain⟨wz,hwz⟩:∃wz:World,wz=wr:=⟨_,rfl⟩;subst hwz;have hrt:=gB HRT.out FS (by omega);have hrb:=gB HRB.out FS (by omega);have hrb:LgB wz (w.heap.size+2) lg0 (.slice none 0 0) (.slice none 0 0) (.slice none 0 0):=hrb;cases i with
  |zero=>
   have HX:Hid (V=((gi,nd),0)):=by unfold Hid;rw[HVI.out];exact CM frm _ (by simp;omega) gi nd
   have d0:decide ((0:Int)<((0:Nat):Int))=false:=rfl;obtain⟨k0,k1,k2,k3,k4,k5,k6⟩:=hlg.cells;obtain⟨m0,m1,m2,m3,m4,m5,m6,y0,y1,y2,y3,y4,y5,y6,ml⟩:=LgB.zc hrb;have kl:=aC hlg;go_wp2;refine bodyPost_ret (v:=.tuple #[.agg #[.int .i64 gi.num,.slice Aa gi.accs.length ca,.slice Al gi.lines.length cl,.slice Ao gi.offers.length co,.int .i64 gi.nid,.int .i64 gi.fees,.int .u64 (gi.link:Int)],.int .i64 nd,.int .i64 0]) (by simp[results,Tryz.results121,go_sem,m0,m1,m2,m3,m4,m5,m6]) rfl ?_;have F9:=(aW (g:=gi) (va:=.slice Aa gi.accs.length ca) (vl:=.slice Al gi.lines.length cl) (vo:=.slice Ao gi.offers.length co) hrb).1;exact⟨_,_,_,_,_,_,_,_,_,by rw[HX.out]<;>rfl,fun _=>by rw[HX.out];exact HLI.out.2.both HLI.out.1.weak F9,(FrS.own HF1.out FS (by intro x hx h;omega)).own F9⟩
  |succ i=>
   obtain⟨gc,hgc⟩:∃gc,gc=CH[i+1]:=⟨_,rfl⟩;obtain⟨gv,hgv⟩:∃gv,gv=CH[i]'(by omega):=⟨_,rfl⟩;have hVI:=HVI.out;rw[CK hi,←hgc,←hgv] at hVI;have HVI:=sH hVI;have hrv:(CH.take (i+1)).reverse=gv::(CH.take i).reverse:=by rw[AV (by omega),←hgv]
   have HRV:=sH hrv;have hFw:FrS (fun x=>x=w.heap.size+1) w wz:=(FrS.of HF1.out (by simp)).trans FS (fun x _ e=>e);have e0:wz.cell? ⟨bc,offc+(i+1)*2,none⟩=some (.string (bL gc.code)):=by rw[hgc];exact kH (HC.out (i+1) hi).1 hbc hFw (by omega)
   have e1:wz.cell? ⟨bc,offc+(i+1)*2+1,none⟩=some (.int .i64 gc.iss):=by rw[hgc];exact kH (HC.out (i+1) hi).2 hbc hFw (by omega)
   have e2:wz.cell? ⟨bc,offc+i*2,none⟩=some (.string (bL gv.code)):=by rw[hgv];exact kH (HC.out i (by omega)).1 hbc hFw (by omega)
   have e3:wz.cell? ⟨bc,offc+i*2+1,none⟩=some (.int .i64 gv.iss):=by rw[hgv];exact kH (HC.out i (by omega)).2 hbc hFw (by omega)
   have r0:wz.cell? ⟨w.heap.size,0,none⟩=some (.int .i64 frm):=by rw[aA hrt];rfl
   have r1:wz.cell? ⟨w.heap.size,1,none⟩=some (.slice (some ⟨bc,offc,none⟩) CH.length cc):=by rw[aA hrt];rfl
   clear hgc hgv hVI hrv hFw;have d0:decide ((0:Int)<((i+1:Nat):Int))=true:=decide_eq_true (by omega);have hi1:((i+1:Nat):Int)<(CH.length:Int):=by omega
   have hi1b:(i:Int)+1<(CH.length:Int):=by omega
   have hi2:(i:Int)<(CH.length:Int):=by omega
   have hi5:(0:Int)≤(i:Int)+1:=by omega
   have hi8:((i:Int)+1).toNat=i+1:=by omega
   have hi6:i≤1000:=by omega
   have hwi:IntKind.i64.wrap (((i+1:Nat):Int) - 1)=(i:Int):=by rw[show((i+1:Nat):Int) - 1=(i:Int) by omega];exact gY (by omega) (by omega)
   have hwj:IntKind.i64.wrap (i:Int)=(i:Int):=gY (by omega) (by omega);have hwk:wrap64 (i:Int)=(i:Int):=fV (by omega) (by omega);go_upto_region 4 with(fail)
   go_cut [10,11] (fun s10 s11 W=>∃b1 b2:Nat,s10= .pointer (some ⟨b1,0,none⟩)∧s11= .pointer (some ⟨b2,0,none⟩)∧dK W b1 gc∧dK W b2 gv∧Fr none wz W)
   case first=>
    have KW:∀W,Fr none wz W→(W.cell? ⟨bc,offc+(i+1)*2,none⟩=some (.string (bL gc.code))∧W.cell? ⟨bc,offc+(i+1)*2+1,none⟩=some (.int .i64 gc.iss)∧W.cell? ⟨bc,offc+i*2,none⟩=some (.string (bL gv.code))∧W.cell? ⟨bc,offc+i*2+1,none⟩=some (.int .i64 gv.iss)∧W.cell? ⟨w.heap.size,1,none⟩=some (.slice (some ⟨bc,offc,none⟩) CH.length cc))∧Fr none wz W:=fun W FW=>⟨⟨FW.keep e0,FW.keep e1,FW.keep e2,FW.keep e3,FW.keep r1⟩,FW⟩;clear e0 e1 e2 e3 r0 r1 HV HVI HKI HLI HRV HST
    (go_region_held3 (fun W=>(W.cell? ⟨bc,offc+(i+1)*2,none⟩=some (.string (bL gc.code))∧W.cell? ⟨bc,offc+(i+1)*2+1,none⟩=some (.int .i64 gc.iss)∧W.cell? ⟨bc,offc+i*2,none⟩=some (.string (bL gv.code))∧W.cell? ⟨bc,offc+i*2+1,none⟩=some (.int .i64 gv.iss)∧W.cell? ⟨w.heap.size,1,none⟩=some (.slice (some ⟨bc,offc,none⟩) CH.length cc))∧Fr none wz W) (first|exact KW _ (Fr.refl _ _).drew|exact KW _ ((Fr.refl _ _).drew.alloc _)|exact KW _ (((Fr.refl _ _).drew.alloc _).alloc _)) (first|fail))
    all_goals(go_wp2_with fail;go_meet)
    all_goals first
     |(obtain⟨h1,h2,h3⟩:=cW wz.drew (.cells #[.string (bL gc.code),.int .i64 gc.iss] 46 (0,0)) (.cells #[.string (bL gv.code),.int .i64 gv.iss] 46 (0,0));exact⟨_,_,rfl,rfl,h2,h3,((Fr.refl _ _).drew.alloc _).alloc _⟩)
     |(obtain⟨h1,h2,h3⟩:=cW wz.drew (.cells #[.string (bL gv.code),.int .i64 gv.iss] 46 (0,0)) (.cells #[.string (bL gc.code),.int .i64 gc.iss] 46 (0,0));exact⟨_,_,rfl,rfl,h3,h2,((Fr.refl _ _).drew.alloc _).alloc _⟩)
   case rest=>
    obtain⟨b1,b2,rfl,rfl,hga,hgb,F2⟩:=hcut;clear e0 e1 e2 e3 r0 r1;have HLI:=sH (And.intro (HLI.out.1.fr F2.mono) (HLI.out.2.fr F2.mono));have FS:=FS.add F2 (by simp);have hlg:=hlg.fr F2;have hrb:=hrb.fr F2;have hrt:=aF hrt F2 (by simp);clear F2;obtain⟨a0,a1⟩:=hga.cells;obtain⟨a2,a3⟩:=hgb.cells;by_cases hgg:gc=gv
    ·subst hgg;have HST:Hid (V=cR frm ((CH.take (i+1)).reverse) gi nd):=by unfold Hid;rw[HVI.out,HRV.out,wH,if_pos rfl]
     go_wp2_with fail;go_roundw
     case rel=>exact⟨i,gi,nd,Aa,Al,Ao,ca,cl,co,by omega,by go_num,rfl,HST,HKI,hlg,HLI,FS⟩
     case measure=>simp[intOf]<;>omega
    have HST:=sH (HVI.out.trans (by rw[wH,if_neg hgg]));clear HVI;obtain⟨k0,k1,k2,k3,k4,k5,k6⟩:=hlg.cells;by_cases q1:gc.code=gv.code
    ·have e1:(bL gc.code).toList=(bL gv.code).toList:=by rw[q1]
     have e2:¬gc.iss=gv.iss:=fun e=>hgg (by cases hh:gc;cases hk:gv;rw[hh,hk] at q1 e;simp only at q1 e;rw[q1,e]);exact tw3
    have e1:¬(bL gc.code).toList=(bL gv.code).toList:=fun e=>q1 (by rw[bQ,bQ] at e;exact e);exact tw3
def NwY(r:(Lgr × Int) × Int)(w:World)(e:Ending)(w':World):Prop:=∃va vl vo,e= .returned (.tuple #[.agg #[.int .i64 r.1.1.num,va,vl,vo,.int .i64 r.1.1.nid,.int .i64 r.1.1.fees,.int .u64 (r.1.1.link:Int)],.int .i64 r.1.2,.int .i64 r.2])∧OwG w' w.heap.size r.1.1 va vl vo∧Fr none w w'
theorem EF{g:Lgr}{give get:Ast}{path:List Ast}{n most:Int}(h:qE g give get path n most=0):aH g=0∧path.length≤4:=by
 unfold qE at h;split at h
 ·contradiction
 split at h
 ·cases h
 split at h
 ·cases h
 rename_i h1 h2 h3;rw[not_or,not_or] at h3;exact⟨by omega,(qO.1 (by simpa using h3.2.2)).1⟩
theorem CP(g:Lgr)(va vl vo vp:Value)(frm to_:Int)(give get:Ast)(path:List Ast)(n most:Int)(w:World)(h:LgS w none g va vl vo)(hp:SlR cB w none vp path)(hpl:path.length≤1000)(hg1:Wi give.iss)(hg2:Wi get.iss):
  Calls Tryz.prog 82 #[.agg #[.int .i64 g.num,va,vl,vo,.int .i64 g.nid,.int .i64 g.fees,.int .u64 (g.link:Int)],.int .i64 frm,.int .i64 to_,.agg #[.string (bL give.code),.int .i64 give.iss],.agg #[.string (bL get.code),.int .i64 get.iss],vp,.int .i64 n,.int .i64 most] w (NwY (jO g frm to_ give get path n most) w):=by
 obtain⟨V,hV⟩:∃V,V=jO g frm to_ give get path n most:=⟨_,rfl⟩;rw[←hV];unfold jO at hV;have HV:=sH hV;clear hV;obtain⟨A1,c1,rfl, -, -, -⟩:=aN h.1;obtain⟨A2,c2,rfl, -, -, -⟩:=aU h.2.1;obtain⟨A3,c3,rfl, -, -, -⟩:=bA h.2.2.1;obtain⟨Ap,cp,rfl, -, -, -⟩:=iJ hp;have HG:=sH h;have HP:=sH hp;have HW1:=sH hg1;have HW2:=sH hg2;have HPL:=sH hpl;clear h hp hg1 hg2 hpl;go_enter Tryz.func82,Tryz.ntmps82;go_upto_region 1 with(fail)
 generalize hW:(((w.alloc _).alloc _).alloc _).alloc _=w1;obtain⟨FA,hlg,hga,hgb,hrb⟩:Fr none w w1∧LgB w1 w.heap.size g (.slice A1 g.accs.length c1) (.slice A2 g.lines.length c2) (.slice A3 g.offers.length c3)∧dK w1 (w.heap.size+1) give∧dK w1 (w.heap.size+2) get∧LgB w1 (w.heap.size+3) lg0 (.slice none 0 0) (.slice none 0 0) (.slice none 0 0):=by rw[←hW];exact jF w _ _ _ _
 clear hW;obtain⟨k0,k1,k2,k3,k4,k5,k6⟩:=hlg.cells;obtain⟨a0,a1⟩:=hga.cells;obtain⟨a2,a3⟩:=hgb.cells;go_wp2_with fail;refine(CJ g _ _ _ _ frm give get path n most w1.heap.size _ (HG.out.fr (FA.alloc _)) (HP.out.fr (FA.alloc _)) HPL.out HW1.out HW2.out (by rw[aA (aD _ _)];rfl) (by rw[aA (aD _ _)];rfl)).mono ?_;rintro e w2 ⟨fr,ch,rfl,F2,hpz,A,m,c,rfl⟩;clear k0 k1 k2 k3 k4 k5 k6 a0 a1 a2 a3;have F2:=((Fr.refl none w1).alloc _).pure F2;have FA:=FA.pure F2;have hlg:=hlg.fr F2;have hga:=hga.fr F2;have hgb:=hgb.fr F2;have hrb:=hrb.fr F2;clear F2;go_upto_region 2 with(fail)
 generalize hW:w2.alloc _=w3;have F3:Fr none w2 w3:=hW▸(Fr.refl none w2).alloc _;have hrt:w3.heap[w2.heap.size]?=some (.cells #[.int .i64 fr,.slice A m c] 162 (0,0)):=by rw[←hW];exact aD _ _
 clear hW;have HPZ:Hid (qE g give get path n most=0→fr=frm∧SlR cB w3 none (.slice A m c) ([give]++path++[get])):=fun e=>⟨(hpz e).1,(hpz e).2.fr F3⟩;have FA:=FA.pure F3;have hlg:=hlg.fr F3;have hga:=hga.fr F3;have hgb:=hgb.fr F3;have hrb:=hrb.fr F3;clear F3;clear hpz;obtain⟨E,hE⟩:∃E,E=qE g give get path n most:=⟨_,rfl⟩;have HPK:Hid (E=0→aH g=0∧path.length≤4):=fun e=>EF (by rw[←hE,e]);rw[←hE] at HV HPZ ⊢;clear hE;by_cases h0:E=0
 ·subst h0;replace HV:=sH (HV.out.trans (if_neg (by simp)));replace HPK:=sH (HPK.out rfl);obtain⟨hfr,hch⟩:=HPZ.out rfl;subst hfr;have HCH:=sH hch;clear hch HPZ;go_upto_region 4 with(fail)
  go_cut [41,42,43,44,45,46,47,48,49,50,51,52,53] (fun _ _ _ _ _ _ _ _ _ _ _ _ s53 wq=>s53= .bool (!(aK g.accs fr).isSome|| !(aK g.accs to_).isSome||(fr == to_))∧Fr none w3 wq)
  case first=>
   clear HV HPK HCH;obtain⟨k0,k1,k2,k3,k4,k5,k6⟩:=hlg.cells;go_wp2_with fail;refine(pW g _ _ _ fr w3 (HG.out.fr FA)).mono ?_;rintro e w4 ⟨rfl,F4⟩;clear k0 k1 k2 k3 k4 k5 k6;have FB:=F4;have hlg:=hlg.fr F4;have FA:=FA.pure F4;obtain⟨k0,k1,k2,k3,k4,k5,k6⟩:=hlg.cells;generalize(aK g.accs fr).isSome=v1 at*
   cases v1 with
   |false=>
    go_wp2_with fail;go_meet
    exact⟨rfl,FB⟩
   |true=>
    go_wp2_with fail;refine(pW g _ _ _ to_ w4 (HG.out.fr FA)).mono ?_;rintro e w5 ⟨rfl,F5⟩;clear k0 k1 k2 k3 k4 k5 k6;have FB:=FB.pure F5;generalize(aK g.accs to_).isSome=v2 at*
    cases v2 with
    |false=>
     go_wp2_with fail;go_meet
     exact⟨rfl,FB⟩
    |true=>
     go_wp2_with fail;go_meet
     exact⟨rfl,FB⟩
  case rest=>
   obtain⟨rfl,Fq⟩:=hcut;have hrt:=aF hrt Fq (by simp);have HCH:=sH (HCH.out.fr Fq);have FA:=FA.pure Fq;have hlg:=hlg.fr Fq;have hga:=hga.fr Fq;have hgb:=hgb.fr Fq;have hrb:=hrb.fr Fq;clear Fq;obtain⟨Q,hQ⟩:∃Q,Q=(!(aK g.accs fr).isSome|| !(aK g.accs to_).isSome||(fr == to_)):=⟨_,rfl⟩;have hQC:Q=true↔((aK g.accs fr).isSome=false∨(aK g.accs to_).isSome=false∨fr=to_):=by
    rw[hQ];simp only[Bool.or_eq_true,Bool.not_eq_true',beq_iff_eq,or_assoc]
   rw[←hQ];have HQC:=sH hQC;clear hQ hQC;cases Q with
   |true=>
    have HX:=sH (HV.out.trans (if_pos (HQC.out.1 rfl)));clear HV HQC;obtain⟨m0,m1,m2,m3,m4,m5,m6,y0,y1,y2,y3,y4,y5,y6,ml⟩:=LgB.zc hrb;go_wp2;refine bodyPost_ret (v:=.tuple #[.agg #[.int .i64 0,.slice none 0 0,.slice none 0 0,.slice none 0 0,.int .i64 0,.int .i64 0,.int .u64 0],.int .i64 0,.int .i64 67]) (by simp[results,Tryz.results82,go_sem,m0,m1,m2,m3,m4,m5,m6]) rfl ?_;exact tw2
   |false=>
    replace HV:=sH (HV.out.trans (if_neg (fun e=>by have:=HQC.out.2 e;cases this)));clear HQC;have r0:World.cell? wc ⟨w2.heap.size,0,none⟩=some (.int .i64 fr):=by rw[aA hrt];rfl
    have r1:World.cell? wc ⟨w2.heap.size,1,none⟩=some (.slice A m c):=by rw[aA hrt];rfl
    obtain⟨k0,k1,k2,k3,k4,k5,k6⟩:=hlg.cells;go_wp2_with fail;refine(CO fr ([give]++path++[get]) (.slice A m c) g _ _ _ n wc (HG.out.fr FA) HCH.out (by have:=HPK.out.2;simp;omega) (by simp) HPK.out.1).mono ?_;rintro e w4 ⟨A4,n4,c4,A5,n5,c5,A6,n6,c6,rfl,hL,F4⟩;clear k0 k1 k2 k3 k4 k5 k6;clear r0 r1 hrt HCH;have HBK:Hid ((cR fr ([give]++path++[get]).reverse g n).2=0→aH (cR fr ([give]++path++[get]).reverse g n).1.1=0):=fun e=>(oD fr _ g n HPK.out.1 e).1;generalize cR fr ([give]++path++[get]).reverse g n=B at*
    obtain⟨⟨gb,pb⟩,eb⟩:=B;dsimp only at hL HBK HV ⊢;have HL:=sH hL;clear hL;have FA:=FA.pure F4;have hlg:=hlg.fr F4;have hga:=hga.fr F4;have hgb:=hgb.fr F4;have hrb:=hrb.fr F4;clear F4;have HF4:Hid (w.heap.size≤w4.heap.size):=FA.size;have HRL:Hid (w.heap.size+3<w4.heap.size):=aC hrb;go_upto_region 7 with(fail)
    generalize hW:w4.alloc _=w5;have F5:Fr none w4 w5:=hW▸(Fr.refl none w4).alloc _;have hdb:LgB w5 w4.heap.size gb (.slice A4 n4 c4) (.slice A5 n5 c5) (.slice A6 n6 c6):=by rw[←hW];exact aD _ _
    clear hW;replace HL:Hid (eb=0→LgS w5 none gb (.slice A4 n4 c4) (.slice A5 n5 c5) (.slice A6 n6 c6)):=fun e=>(HL.out e).fr F5;have FA:=FA.pure F5;have hlg:=hlg.fr F5;have hga:=hga.fr F5;have hgb:=hgb.fr F5;have hrb:=hrb.fr F5;clear F5;by_cases h1:eb=0
    ·subst h1;replace HV:=sH (HV.out.trans (if_neg (by simp)));replace HL:=sH (HL.out rfl);replace HBK:=sH (HBK.out rfl);by_cases hm:most<pb
     ·have HX:=sH (HV.out.trans (if_pos hm));have hq:decide (most<pb)=true:=decide_eq_true hm;clear hm HV;obtain⟨m0,m1,m2,m3,m4,m5,m6,y0,y1,y2,y3,y4,y5,y6,ml⟩:=LgB.zc hrb;go_wp2;refine bodyPost_ret (v:=.tuple #[.agg #[.int .i64 0,.slice none 0 0,.slice none 0 0,.slice none 0 0,.int .i64 0,.int .i64 0,.int .u64 0],.int .i64 0,.int .i64 66]) (by simp[results,Tryz.results82,go_sem,m0,m1,m2,m3,m4,m5,m6]) rfl ?_;exact tw2
     replace HV:=sH (HV.out.trans (if_neg hm));have hq:decide (most<pb)=false:=decide_eq_false hm;clear hm;obtain⟨q0,q1,q2,q3,q4,q5,q6⟩:=hdb.cells;obtain⟨a0,a1⟩:=hga.cells;obtain⟨a2,a3⟩:=hgb.cells;go_wp2_with fail;refine(wF gb _ _ _ fr give pb to_ get n w5 HL.out HBK.out).mono ?_;rintro e w6 ⟨va1,vl1,vo1,rfl,og1,F6⟩;clear a0 a1 a2 a3 q0 q1 q2 q3 q4 q5 q6;generalize mov gb fr give pb to_ get n=D at*
     obtain⟨gd,ed⟩:=D;dsimp only at og1 HV ⊢;obtain⟨A7,c7,rfl⟩:=aO og1.a;obtain⟨A8,c8,rfl⟩:=aO og1.l;obtain⟨A9,c9,rfl⟩:=aO og1.o;have HSZ:Hid (w.heap.size≤w5.heap.size):=FA.size;have HBL:=sH (aC hrb);have hdl:w4.heap.size<w5.heap.size:=aC hdb;have hdb:=hdb.fr F6;have HFA4:Hid (w.heap.size≤w4.heap.size):=HF4.out;have HOG:=sH og1;clear og1;have FA:=FA.pure F6;have hlg:=hlg.fr F6;have hga:=hga.fr F6;have hgb:=hgb.fr F6;have hrb:=hrb.fr F6;clear F6;obtain⟨q0,q1,q2,q3,q4,q5,q6⟩:=hdb.cells;have z0:=aB hdb 0;have z1:=aB hdb 1;have z2:=aB hdb 2;have z3:=aB hdb 3;have z4:=aB hdb 4;have z5:=aB hdb 5;have z6:=aB hdb 6;have zl:=aC hdb;go_upto_region 12 with(fail)
     generalize hW:(((((((w6.setCell ⟨w4.heap.size,0,none⟩ (.int .i64 gd.num)).setCell ⟨w4.heap.size,1,none⟩ (.slice A7 gd.accs.length c7)).setCell ⟨w4.heap.size,2,none⟩ (.slice A8 gd.lines.length c8)).setCell ⟨w4.heap.size,3,none⟩ (.slice A9 gd.offers.length c9)).setCell ⟨w4.heap.size,4,none⟩ (.int .i64 gd.nid)).setCell ⟨w4.heap.size,5,none⟩ (.int .i64 gd.fees)).setCell ⟨w4.heap.size,6,none⟩ (.int .u64 (gd.link:Int)))=w7;obtain⟨F7,hd7⟩:Fr (some w4.heap.size) w6 w7∧LgB w7 w4.heap.size gd (.slice A7 gd.accs.length c7) (.slice A8 gd.lines.length c8) (.slice A9 gd.offers.length c9):=by rw[←hW];exact aW hdb
     clear hW q0 q1 q2 q3 q4 q5 q6 z0 z1 z2 z3 z4 z5 z6 zl hdb;replace HOG:=sH (HOG.out.fr F7 (fun x e=>by injection e with e;omega));have FA:=FA.new F7 HFA4.out;have hrb:=hrb.fr F7 (fun e=>by injection e with e;have:=HRL.out;omega);clear F7;by_cases h2:ed=0
     ·subst h2;have HX:=sH (HV.out.trans (if_neg (by simp)));obtain⟨q0,q1,q2,q3,q4,q5,q6⟩:=hd7.cells;obtain⟨m0,m1,m2,m3,m4,m5,m6,y0,y1,y2,y3,y4,y5,y6,ml⟩:=LgB.zc hrb;go_wp2;refine bodyPost_ret (v:=.tuple #[.agg #[.int .i64 (gd).num,(.slice A7 gd.accs.length c7),(.slice A8 gd.lines.length c8),(.slice A9 gd.offers.length c9),.int .i64 (gd).nid,.int .i64 (gd).fees,.int .u64 ((gd).link:Int)],.int .i64 pb,.int .i64 0]) (by simp[results,Tryz.results82,go_sem,m0,m1,m2,m3,m4,m5,m6]) rfl ?_;have F9:=(aW (g:=gd) (va:=(.slice A7 gd.accs.length c7)) (vl:=(.slice A8 gd.lines.length c8)) (vo:=(.slice A9 gd.offers.length c9)) hrb).1;exact⟨_,_,_,by rw[HX.out]<;>rfl,by rw[HX.out];exact(HOG.out.fr F9 (fun x e=>by have e:some (w.heap.size+3)=some x:=e;injection e with e;have:=HBL.out;omega)).base HSZ.out,FA.own F9⟩
     have HX:=sH (HV.out.trans (if_pos h2));have hq:(ed !=0)=true:=by simp[h2]
     clear h2 HV;obtain⟨m0,m1,m2,m3,m4,m5,m6,y0,y1,y2,y3,y4,y5,y6,ml⟩:=LgB.zc hrb;go_wp2;refine bodyPost_ret (v:=.tuple #[.agg #[.int .i64 0,.slice none 0 0,.slice none 0 0,.slice none 0 0,.int .i64 0,.int .i64 0,.int .u64 0],.int .i64 0,.int .i64 ed]) (by simp[results,Tryz.results82,go_sem,m0,m1,m2,m3,m4,m5,m6]) rfl ?_;exact tw2
    have HX:=sH (HV.out.trans (if_pos h1));have hq:(eb !=0)=true:=by simp[h1]
    clear h1 HV;obtain⟨m0,m1,m2,m3,m4,m5,m6,y0,y1,y2,y3,y4,y5,y6,ml⟩:=LgB.zc hrb;go_wp2;refine bodyPost_ret (v:=.tuple #[.agg #[.int .i64 0,.slice none 0 0,.slice none 0 0,.slice none 0 0,.int .i64 0,.int .i64 0,.int .u64 0],.int .i64 0,.int .i64 eb]) (by simp[results,Tryz.results82,go_sem,m0,m1,m2,m3,m4,m5,m6]) rfl ?_;exact tw2
 have HX:=sH (HV.out.trans (if_pos h0));have hq:(E !=0)=true:=by simp[h0]
 clear h0 HV;obtain⟨m0,m1,m2,m3,m4,m5,m6,y0,y1,y2,y3,y4,y5,y6,ml⟩:=LgB.zc hrb;go_wp2;refine bodyPost_ret (v:=.tuple #[.agg #[.int .i64 0,.slice none 0 0,.slice none 0 0,.slice none 0 0,.int .i64 0,.int .i64 0,.int .u64 0],.int .i64 0,.int .i64 E]) (by simp[results,Tryz.results82,go_sem,m0,m1,m2,m3,m4,m5,m6]) rfl ?_;exact tw2
theorem EG{g:Lgr}{s:Int}{sg by_:Ast}{amt n d:Int}(h:dM g s sg by_ amt n d=0):iT g s sg by_ amt n d=((jJ g s sg by_ amt n d,g.nid),0):=by
 unfold iT;rw[if_neg (by omega)]
theorem CQ{g:Lgr}{s:Int}{sg by_:Ast}{amt n d:Int}(h:dM g s sg by_ amt n d≠0):iT g s sg by_ amt n d=((lg0,0),dM g s sg by_ amt n d):=by
 unfold iT;rw[if_pos h]
theorem OwG.appO{w w':World}{base:Nat}{g g':Lgr}{va vl vo vo':Value}(h:OwG w base g va vl vo)(e1:g'.accs=g.accs)(e2:g'.lines=g.lines)(own':w'.ownsRow base 67 9 vo' g'.offers.length (flR ofR g'.offers))(F:Fr vo.ownBlock w w')(nb:oJ w.heap.size vo vo'):OwG w' base g' va vl vo':=by
 refine⟨?_,?_,own',h.al,?_,?_⟩
 ·rw[e1];exact BG h.a F (fun b hb e=>h.ao b hb e)
 ·rw[e2];exact BG h.l F (fun b hb e=>h.lo b hb e)
 ·intro x hx hy;rcases nb with nb|⟨q,nb,hq⟩
  ·exact h.ao x hx (nb▸hy)
  rw[nb] at hy;injection hy with hy
  have:=bR h.a hx;omega
 intro x hx hy;rcases nb with nb|⟨q,nb,hq⟩
 ·exact h.lo x hx (nb▸hy)
 rw[nb] at hy;injection hy with hy
 have:=bR h.l hx;omega
theorem CR{g:Lgr}(h:dI g=true):1≤g.nid∧g.nid≤1000000:=by
 unfold dI at h;simp only[Bool.and_eq_true,decide_eq_true_eq,dE] at h;omega
theorem OfB.set78{w:World}{b:Nat}{x:Ofr}(p q:Int)(h:OfB w b x):Fr (some b) w ((w.setCell ⟨b,7,none⟩ (.int .i64 p)).setCell ⟨b,8,none⟩ (.int .i64 q))∧OfB ((w.setCell ⟨b,7,none⟩ (.int .i64 p)).setCell ⟨b,8,none⟩ (.int .i64 q)) b {x with num:=p,den:=q}:=by
 refine⟨(Fr.set1 w ⟨b,7,none⟩ _).same (Fr.set1 _ ⟨b,8,none⟩ _),?_⟩;unfold OfB at h ⊢;have h2:=aI (aI h 7 (.int .i64 p)) 8 (.int .i64 q);simp only[List.setIfInBounds_toArray,List.set_cons_zero,List.set_cons_succ] at h2;exact h2
theorem LgB.set4{w:World}{b:Nat}{g:Lgr}{va vl vo:Value}(h:LgB w b g va vl vo)(x:Int):LgB (w.setCell ⟨b,4,none⟩ (.int .i64 x)) b {g with nid:=x} va vl vo:=by
 unfold LgB at h ⊢;have h2:=aI h 4 (.int .i64 x);simp only[List.setIfInBounds_toArray,List.set_cons_zero,List.set_cons_succ] at h2;exact h2
theorem AW(g:Lgr)(va vl vo:Value)(s:Int)(sg by_:Ast)(amt n d:Int)(w:World)(h:LgS w none g va vl vo):
  Calls Tryz.prog 80 #[.agg #[.int .i64 g.num,va,vl,vo,.int .i64 g.nid,.int .i64 g.fees,.int .u64 (g.link:Int)],.int .i64 s,.agg #[.string (bL sg.code),.int .i64 sg.iss],.agg #[.string (bL by_.code),.int .i64 by_.iss],.int .i64 amt,.int .i64 n,.int .i64 d] w (NwY (iT g s sg by_ amt n d) w):=by
 obtain⟨V,hV⟩:∃V,V=iT g s sg by_ amt n d:=⟨_,rfl⟩;rw[←hV];have HV:=sH hV;clear hV;obtain⟨E,hE⟩:∃E,E=dM g s sg by_ amt n d:=⟨_,rfl⟩;have HVE:Hid (E≠0→V=((lg0,0),E)):=fun hne=>by rw[HV.out,hE];exact CQ (by rw[←hE];exact hne)
 have HE:=sH hE;have hE2:=hE;unfold dM at hE2;have HE2:=sH hE2;clear hE hE2;obtain⟨A1,c1,rfl, -, -, -⟩:=aN h.1;obtain⟨A2,c2,rfl, -, -, -⟩:=aU h.2.1;obtain⟨A3,c3,rfl, -, -, -⟩:=bA h.2.2.1;have HG:=sH h;clear h;go_enter Tryz.func80,Tryz.ntmps80;go_upto_region 1 with(fail)
 generalize hW:(((w.alloc _).alloc _).alloc _).alloc _=w1;obtain⟨FA,hlg,hga,hgb,hrb⟩:Fr none w w1∧LgB w1 w.heap.size g (.slice A1 g.accs.length c1) (.slice A2 g.lines.length c2) (.slice A3 g.offers.length c3)∧dK w1 (w.heap.size+1) sg∧dK w1 (w.heap.size+2) by_∧LgB w1 (w.heap.size+3) lg0 (.slice none 0 0) (.slice none 0 0) (.slice none 0 0):=by rw[←hW];exact jF w _ _ _ _
 clear hW;obtain⟨k0,k1,k2,k3,k4,k5,k6⟩:=hlg.cells;obtain⟨a0,a1⟩:=hga.cells;obtain⟨a2,a3⟩:=hgb.cells;go_wp2_with fail;refine(eJ g _ _ _ w1 (HG.out.fr FA)).mono ?_;rintro e w2 ⟨rfl,F2⟩;clear k0 k1 k2 k3 k4 k5 k6 a0 a1 a2 a3;have FA:=FA.pure F2;have hlg:=hlg.fr F2;have hga:=hga.fr F2;have hgb:=hgb.fr F2;have hrb:=hrb.fr F2;clear F2;obtain⟨C,hC⟩:∃C,C=aH g:=⟨_,rfl⟩;have HCC:=sH hC;rw[←hC] at HE2 ⊢;clear hC;by_cases h0:C=0
 ·subst h0;replace HE2:=sH (HE2.out.trans (if_neg (by simp)));obtain⟨k0,k1,k2,k3,k4,k5,k6⟩:=hlg.cells;go_wp2_with fail;refine(gW g.accs _ s w2 (HG.out.1.fr FA)).mono ?_;rintro e w3 ⟨rfl,F3⟩;have hfs:=dY g.accs s;generalize dR g.accs s=R at*
  obtain⟨⟨f1,f2,f3⟩,FB⟩:=R;have HFB:Hid (FB=(aK g.accs s).isSome):=hfs;rw[←hfs] at HE2;clear hfs;clear k0 k1 k2 k3 k4 k5 k6;have FA:=FA.pure F3;have hlg:=hlg.fr F3;have hga:=hga.fr F3;have hgb:=hgb.fr F3;have hrb:=hrb.fr F3;clear F3;go_upto_region 5 with(fail)
  generalize hW:w3.alloc _=w4;have F4:Fr none w3 w4:=hW▸(Fr.refl none w3).alloc _;clear hW;have FA:=FA.pure F4;have hlg:=hlg.fr F4;have hga:=hga.fr F4;have hgb:=hgb.fr F4;have hrb:=hrb.fr F4;clear F4;cases FB with
  |false=>
   have hq:False∨true=true:=.inr rfl;replace HE2:Hid (E=67):=HE2.out.trans (if_pos rfl);have he:=HE2.out;have HX:=sH (HVE.out (by rw[he];decide));rw[he] at HX;clear he hq HV HVE HE HE2;obtain⟨m0,m1,m2,m3,m4,m5,m6,y0,y1,y2,y3,y4,y5,y6,ml⟩:=LgB.zc hrb;go_wp2;refine bodyPost_ret (v:=.tuple #[.agg #[.int .i64 0,.slice none 0 0,.slice none 0 0,.slice none 0 0,.int .i64 0,.int .i64 0,.int .u64 0],.int .i64 0,.int .i64 67]) (by simp[results,Tryz.results80,go_sem,m0,m1,m2,m3,m4,m5,m6]) rfl ?_;exact tw2
  |true=>
   replace HE2:=sH (HE2.out.trans (if_neg (by simp)));go_upto_region 7 with(fail)
   go_cut [38,39,40,41,42,43,44,45,46,47,48,49,50,51] (fun s38 _ _ _ _ _ _ _ _ _ _ _ _ _ wq=>s38= .bool (!aV sg|| !aV by_||decide (sg=by_))∧Fr none w4 wq)
   case first=>
    clear HE2 HV HVE HE HCC;obtain⟨a0,a1⟩:=hga.cells;obtain⟨a2,a3⟩:=hgb.cells;go_wp2_with fail;refine(bT sg w4).mono ?_;rintro e w5 ⟨rfl,F5⟩;clear a0 a1 a2 a3;have FB:=F5;have hga:=hga.fr F5;have hgb:=hgb.fr F5;obtain⟨a0,a1⟩:=hga.cells;obtain⟨a2,a3⟩:=hgb.cells;generalize aV sg=v1 at*
    cases v1 with
    |false=>
     go_wp2_with fail;go_meet
     exact⟨rfl,FB⟩
    |true=>
     go_wp2_with fail;refine(bT by_ w5).mono ?_;rintro e w6 ⟨rfl,F6⟩;clear a0 a1 a2 a3;have FB:=FB.pure F6;have hga:=hga.fr F6;have hgb:=hgb.fr F6;obtain⟨a0,a1⟩:=hga.cells;obtain⟨a2,a3⟩:=hgb.cells;generalize aV by_=v2 at*
     cases v2 with
     |false=>
      go_wp2_with fail;go_meet
      exact⟨rfl,FB⟩
     |true=>
      by_cases hgg:sg=by_
      ·subst hgg;go_wp2_with fail;go_meet
       exact⟨by simp,FB⟩
      have HF:Hid ((!true|| !true||decide (sg=by_))=false):=by unfold Hid;rw[decide_eq_false hgg];rfl
      by_cases q1:sg.code=by_.code
      ·have e1:(bL sg.code).toList=(bL by_.code).toList:=by rw[q1]
       have e2:¬sg.iss=by_.iss:=fun e=>hgg (by cases hh:sg;cases hk:by_;rw[hh,hk] at q1 e;simp only at q1 e;rw[q1,e]);clear q1 hgg;go_wp2_with fail;go_meet
       exact⟨by rw[HF.out],FB⟩
      have e1:¬(bL sg.code).toList=(bL by_.code).toList:=fun e=>q1 (by rw[bQ,bQ] at e;exact e);clear q1 hgg;go_wp2_with fail;go_meet
      exact⟨by rw[HF.out],FB⟩
   case rest=>
    obtain⟨rfl,Fq⟩:=hcut;obtain⟨Q,hQ⟩:∃Q,Q=(!aV sg|| !aV by_||decide (sg=by_)):=⟨_,rfl⟩;have hQC:Q=true↔(aV sg=false∨aV by_=false∨sg=by_):=by
     rw[hQ];simp only[Bool.or_eq_true,Bool.not_eq_true',decide_eq_true_eq,or_assoc]
    rw[←hQ];have HQC:=sH hQC;clear hQ hQC;have FA:=FA.pure Fq;have hlg:=hlg.fr Fq;have hga:=hga.fr Fq;have hgb:=hgb.fr Fq;have hrb:=hrb.fr Fq;clear Fq;cases Q with
    |true=>
     have hq:=HQC.out.1 rfl;have he:E=71:=HE2.out.trans (if_pos hq);have HX:=sH (HVE.out (by rw[he];decide));rw[he] at HX;clear he hq HV HVE HE HE2 HQC;obtain⟨m0,m1,m2,m3,m4,m5,m6,y0,y1,y2,y3,y4,y5,y6,ml⟩:=LgB.zc hrb;go_wp2;refine bodyPost_ret (v:=.tuple #[.agg #[.int .i64 0,.slice none 0 0,.slice none 0 0,.slice none 0 0,.int .i64 0,.int .i64 0,.int .u64 0],.int .i64 0,.int .i64 71]) (by simp[results,Tryz.results80,go_sem,m0,m1,m2,m3,m4,m5,m6]) rfl ?_;exact tw2
    |false=>
     replace HE2:=sH (HE2.out.trans (if_neg (fun e=>by have:=HQC.out.2 e;cases this)));clear HQC;go_upto_region 9 with(fail)
     go_cut [53,54,55,56,57,58,59,60,61,62,63,64,65,66] (fun s53 _ _ _ _ _ _ _ _ _ _ _ _ _ wq=>s53= .bool (decide (amt<1∨aX amt=false∨bX n d=false))∧wq=wc)
     case first=>
      clear HE2 HV HVE HE HCC;by_cases ha:amt=0
      ·subst ha;have HZ:Hid (decide ((0:Int)<1∨aX 0=false∨bX n d=false)=true):=decide_eq_true (.inl (by decide));go_wp2_with fail;go_meet
       exact⟨by rw[HZ.out],rfl⟩
      have hz:(amt == 0)=false:=by simp[ha]
      have HA:=sH ha;clear ha;go_wp2_with fail;refine(cJ amt _).mono ?_;rintro e w7 ⟨rfl,hww⟩;subst hww;obtain⟨v1,hv1⟩:∃v,v=aX amt:=⟨_,rfl⟩;rw[←hv1];cases v1 with
      |false=>
       have HZ:Hid (decide (amt<1∨aX amt=false∨bX n d=false)=true):=decide_eq_true (.inr (.inl hv1.symm));clear hv1;go_wp2_with fail;go_meet
       exact⟨by rw[HZ.out],rfl⟩
      |true=>
       have HV1:Hid (aX amt=true):=hv1.symm;clear hv1;go_wp2_with fail;refine(gN n d _).mono ?_;rintro e w7 ⟨rfl,hww⟩;subst hww;have HZ:Hid (decide (amt<1∨aX amt=false∨bX n d=false)= !bX n d):=by
        have h1:¬amt<1:=by have:=dE.1 HV1.out;have:=HA.out;omega
        unfold Hid;rw[HV1.out];cases bX n d<;>simp[h1]
       obtain⟨v2,hv2⟩:∃v,v=bX n d:=⟨_,rfl⟩;rw[←hv2];have HV2:=sH hv2;clear hv2;cases v2<;>(go_wp2_with fail;go_meet;exact⟨by rw[HZ.out,←HV2.out]<;>rfl,rfl⟩)
     case rest=>
      obtain⟨rfl,hwq⟩:=hcut;subst hwq;by_cases hQ:amt<1∨aX amt=false∨bX n d=false
      ·rw[decide_eq_true hQ];have he:E=72:=HE2.out.trans (if_pos hQ);have HX:=sH (HVE.out (by rw[he];decide));rw[he] at HX;clear he hQ HV HVE HE HE2;obtain⟨m0,m1,m2,m3,m4,m5,m6,y0,y1,y2,y3,y4,y5,y6,ml⟩:=LgB.zc hrb;go_wp2;refine bodyPost_ret (v:=.tuple #[.agg #[.int .i64 0,.slice none 0 0,.slice none 0 0,.slice none 0 0,.int .i64 0,.int .i64 0,.int .u64 0],.int .i64 0,.int .i64 72]) (by simp[results,Tryz.results80,go_sem,m0,m1,m2,m3,m4,m5,m6]) rfl ?_;exact tw2
      rw[decide_eq_false hQ];replace HE2:=sH (HE2.out.trans (if_neg hQ));have HQA:=sH hQ;clear hQ;go_upto_region 11 with(fail)
      obtain⟨k0,k1,k2,k3,k4,k5,k6⟩:=hlg.cells;obtain⟨a0,a1⟩:=hga.cells;obtain⟨a2,a3⟩:=hgb.cells;go_wp2_with fail;refine(pV g _ _ _ s sg _ (HG.out.fr FA)).mono ?_;rintro e w7 ⟨rfl,F7⟩;clear k0 k1 k2 k3 k4 k5 k6 a0 a1 a2 a3;have FA:=FA.pure F7;have hlg:=hlg.fr F7;have hga:=hga.fr F7;have hgb:=hgb.fr F7;have hrb:=hrb.fr F7;clear F7;obtain⟨v1,hv1⟩:∃v,v=dV g s sg:=⟨_,rfl⟩;rw[←hv1] at HE2 ⊢;clear hv1;cases v1 with
      |false=>
       have he:E=70:=HE2.out.trans (if_pos (.inl rfl));have HX:=sH (HVE.out (by rw[he];decide));rw[he] at HX;clear he HV HVE HE HE2;obtain⟨m0,m1,m2,m3,m4,m5,m6,y0,y1,y2,y3,y4,y5,y6,ml⟩:=LgB.zc hrb;go_wp2;refine bodyPost_ret (v:=.tuple #[.agg #[.int .i64 0,.slice none 0 0,.slice none 0 0,.slice none 0 0,.int .i64 0,.int .i64 0,.int .u64 0],.int .i64 0,.int .i64 70]) (by simp[results,Tryz.results80,go_sem,m0,m1,m2,m3,m4,m5,m6]) rfl ?_;exact tw2
      |true=>
       obtain⟨k0,k1,k2,k3,k4,k5,k6⟩:=hlg.cells;obtain⟨a0,a1⟩:=hga.cells;obtain⟨a2,a3⟩:=hgb.cells;go_wp2_with fail;refine(pV g _ _ _ s by_ _ (HG.out.fr FA)).mono ?_;rintro e w8 ⟨rfl,F8⟩;clear k0 k1 k2 k3 k4 k5 k6 a0 a1 a2 a3;have FA:=FA.pure F8;have hlg:=hlg.fr F8;have hga:=hga.fr F8;have hgb:=hgb.fr F8;have hrb:=hrb.fr F8;clear F8;obtain⟨v2,hv2⟩:∃v,v=dV g s by_:=⟨_,rfl⟩;rw[←hv2] at HE2 ⊢;clear hv2;cases v2 with
       |false=>
        have he:E=70:=HE2.out.trans (if_pos (.inr rfl));have HX:=sH (HVE.out (by rw[he];decide));rw[he] at HX;clear he HV HVE HE HE2;obtain⟨m0,m1,m2,m3,m4,m5,m6,y0,y1,y2,y3,y4,y5,y6,ml⟩:=LgB.zc hrb;go_wp2;refine bodyPost_ret (v:=.tuple #[.agg #[.int .i64 0,.slice none 0 0,.slice none 0 0,.slice none 0 0,.int .i64 0,.int .i64 0,.int .u64 0],.int .i64 0,.int .i64 70]) (by simp[results,Tryz.results80,go_sem,m0,m1,m2,m3,m4,m5,m6]) rfl ?_;exact tw2
       |true=>
        replace HE2:=sH (HE2.out.trans (if_neg (by simp)));obtain⟨k0,k1,k2,k3,k4,k5,k6⟩:=hlg.cells;obtain⟨a0,a1⟩:=hga.cells;obtain⟨a2,a3⟩:=hgb.cells;go_wp2_with fail;refine(rY g _ _ _ s sg _ (HG.out.fr FA)).mono ?_;rintro e w9 ⟨rfl,F9⟩;clear k0 k1 k2 k3 k4 k5 k6 a0 a1 a2 a3;have FA:=FA.pure F9;have hlg:=hlg.fr F9;have hga:=hga.fr F9;have hgb:=hgb.fr F9;have hrb:=hrb.fr F9;clear F9;obtain⟨v3,hv3⟩:∃v,v=fG g s sg:=⟨_,rfl⟩;rw[←hv3] at HE2 ⊢;clear hv3;by_cases hh:v3=0
        ·subst hh;have he:E=66:=HE2.out.trans (if_pos rfl);have HX:=sH (HVE.out (by rw[he];decide));rw[he] at HX;clear he HV HVE HE HE2;obtain⟨m0,m1,m2,m3,m4,m5,m6,y0,y1,y2,y3,y4,y5,y6,ml⟩:=LgB.zc hrb;go_wp2;refine bodyPost_ret (v:=.tuple #[.agg #[.int .i64 0,.slice none 0 0,.slice none 0 0,.slice none 0 0,.int .i64 0,.int .i64 0,.int .u64 0],.int .i64 0,.int .i64 66]) (by simp[results,Tryz.results80,go_sem,m0,m1,m2,m3,m4,m5,m6]) rfl ?_;exact tw2
        replace HE2:=sH (HE2.out.trans (if_neg hh));have hz3:(v3 == 0)=false:=by simp[hh]
        clear hh;go_upto_region 15 with(fail)
        clear hz3;by_cases hl:g.offers.length=40
        ·have hz:((g.offers.length:Int) == 40)=true:=by rw[beq_iff_eq];omega
         have he:E=3:=HE2.out.trans (if_pos (.inl hl));have HX:=sH (HVE.out (by rw[he];decide));rw[he] at HX;clear he hl HV HVE HE HE2;obtain⟨k0,k1,k2,k3,k4,k5,k6⟩:=hlg.cells;obtain⟨m0,m1,m2,m3,m4,m5,m6,y0,y1,y2,y3,y4,y5,y6,ml⟩:=LgB.zc hrb;go_wp2;refine bodyPost_ret (v:=.tuple #[.agg #[.int .i64 0,.slice none 0 0,.slice none 0 0,.slice none 0 0,.int .i64 0,.int .i64 0,.int .u64 0],.int .i64 0,.int .i64 3]) (by simp[results,Tryz.results80,go_sem,m0,m1,m2,m3,m4,m5,m6]) rfl ?_;exact tw2
        have hz:((g.offers.length:Int) == 40)=false:=by rw[beq_eq_false_iff_ne];omega
        by_cases hn:g.nid=1000000
        ·have hzn:(g.nid == 1000000)=true:=by rw[beq_iff_eq];exact hn
         have he:E=3:=HE2.out.trans (if_pos (.inr hn));have HX:=sH (HVE.out (by rw[he];decide));rw[he] at HX;clear he hn hl HV HVE HE HE2;obtain⟨k0,k1,k2,k3,k4,k5,k6⟩:=hlg.cells;obtain⟨m0,m1,m2,m3,m4,m5,m6,y0,y1,y2,y3,y4,y5,y6,ml⟩:=LgB.zc hrb;go_wp2;refine bodyPost_ret (v:=.tuple #[.agg #[.int .i64 0,.slice none 0 0,.slice none 0 0,.slice none 0 0,.int .i64 0,.int .i64 0,.int .u64 0],.int .i64 0,.int .i64 3]) (by simp[results,Tryz.results80,go_sem,m0,m1,m2,m3,m4,m5,m6]) rfl ?_;exact tw2
        have hzn:(g.nid == 1000000)=false:=by rw[beq_eq_false_iff_ne];exact hn
        have he:E=0:=HE2.out.trans (if_neg (fun h=>h.elim hl hn));have HX:Hid (V=((jJ g s sg by_ amt n d,g.nid),0)):=by unfold Hid;rw[HV.out];exact EG (by rw[←HE.out];exact he)
        clear he hn hl HV HVE HE HE2;obtain⟨k0,k1,k2,k3,k4,k5,k6⟩:=hlg.cells;go_upto_region 17 with(fail)
        clear hz hzn;clear k0 k1 k2 k3 k4 k5 k6;have hk:=HCC.out.symm;obtain⟨g1,g2,g3, -, -⟩:=aS.1 hk;obtain⟨l1,l2, -, -⟩:=bJ.1 g1;obtain⟨y1, -, -⟩:=bI.1 l1;have HG3:Hid (1≤g.nid∧g.nid≤1000000):=CR g3;clear g1 g3 l1 hk;obtain⟨k0,k1,k2,k3,k4,k5,k6⟩:=hlg.cells;go_wp2_with fail;refine(mY g _ _ _ w9 (HG.out.fr FA) (by omega) (by omega) (by omega)).mono ?_;rintro e w10 ⟨va',vl',vo',rfl,og,F10⟩;obtain⟨A4,c4,rfl⟩:=aO og.a;obtain⟨A5,c5,rfl⟩:=aO og.l;obtain⟨A6,c6,rfl⟩:=aO og.o;have HSZ:Hid (w.heap.size≤w9.heap.size):=FA.size;have HBL:Hid (w.heap.size+3<w9.heap.size):=aC hrb;have HS10:Hid (w9.heap.size≤w10.heap.size):=F10.size;have HNB:Hid ((∀x,(Value.slice A4 g.accs.length c4).ownBlock=some x→x<w10.heap.size)∧(∀x,(Value.slice A5 g.lines.length c5).ownBlock=some x→x<w10.heap.size)∧(∀x,(Value.slice A6 g.offers.length c6).ownBlock=some x→x<w10.heap.size)):=⟨fun x e=>(bR og.a e).2,fun x e=>(bR og.l e).2,fun x e=>(bR og.o e).2⟩;have HOG:=sH og;clear og y1 l2;have hgo:g.offers.length≤40:=g2;clear g2;clear k0 k1 k2 k3 k4 k5 k6;have FA:=FA.pure F10;have hlg:=hlg.fr F10;have hga:=hga.fr F10;have hgb:=hgb.fr F10;have hrb:=hrb.fr F10;clear F10;obtain⟨k0,k1,k2,k3,k4,k5,k6⟩:=hlg.cells;have z0:=aB hlg 0;have z1:=aB hlg 1;have z2:=aB hlg 2;have z3:=aB hlg 3;have z4:=aB hlg 4;have z5:=aB hlg 5;have z6:=aB hlg 6;have zl:=aC hlg;go_upto_region 18 with(fail)
        generalize hW:(((((((w10.setCell ⟨w.heap.size,0,none⟩ (.int .i64 g.num)).setCell ⟨w.heap.size,1,none⟩ (.slice A4 g.accs.length c4)).setCell ⟨w.heap.size,2,none⟩ (.slice A5 g.lines.length c5)).setCell ⟨w.heap.size,3,none⟩ (.slice A6 g.offers.length c6)).setCell ⟨w.heap.size,4,none⟩ (.int .i64 g.nid)).setCell ⟨w.heap.size,5,none⟩ (.int .i64 g.fees)).setCell ⟨w.heap.size,6,none⟩ (.int .u64 (g.link:Int)))=w11;obtain⟨F3,hb3⟩:Fr (some w.heap.size) w10 w11∧LgB w11 w.heap.size g (.slice A4 g.accs.length c4) (.slice A5 g.lines.length c5) (.slice A6 g.offers.length c6):=by rw[←hW];exact aW hlg
        clear hW;clear k0 k1 k2 k3 k4 k5 k6;clear z0 z1 z2 z3 z4 z5 z6 zl;have HOG:=sH (HOG.out.fr F3 (fun x e=>by injection e with e;have:=HBL.out;omega));have hga:=hga.fr F3;have hgb:=hgb.fr F3;have hrb:=hrb.fr F3;have FA:=FA.own F3;have HS11:Hid (w10.heap.size≤w11.heap.size):=F3.size;clear F3 hlg;have hlg:=hb3;clear hb3;obtain⟨k0,k1,k2,k3,k4,k5,k6⟩:=hlg.cells;obtain⟨a0,a1⟩:=hga.cells;obtain⟨a2,a3⟩:=hgb.cells;go_upto_region 19 with(fail)
        generalize hW:w11.alloc _=w12;have F12:Fr none w11 w12:=hW▸(Fr.refl none w11).alloc _;have hob:OfB w12 w11.heap.size ⟨g.nid,s,sg,by_,amt,0,0⟩:=by rw[←hW];exact aD _ _
        clear hW;clear k0 k1 k2 k3 k4 k5 k6;clear a0 a1 a2 a3;have HOG:=sH (HOG.out.fr F12);have FA:=FA.pure F12;have hlg:=hlg.fr F12;have hga:=hga.fr F12;have hgb:=hgb.fr F12;have hrb:=hrb.fr F12;clear F12;go_wp2_with fail;refine(rV n d w12).mono ?_;rintro e w13 ⟨rfl,F13⟩;have HOG:=sH (HOG.out.fr F13);have hob:=hob.fr F13;have FA:=FA.pure F13;have hlg:=hlg.fr F13;have hga:=hga.fr F13;have hgb:=hgb.fr F13;have hrb:=hrb.fr F13;clear F13;obtain⟨n0,n1,n2,n3,n4,n5,n6,n7,n8⟩:=hob.cells;have z7:=aB hob 7;have z8:=aB hob 8;have zl:=aC hob;go_upto_region 20 with(fail)
        generalize hW:(w13.setCell ⟨w11.heap.size,7,none⟩ (.int .i64 (cI n d).1)).setCell ⟨w11.heap.size,8,none⟩ (.int .i64 (cI n d).2)=w14;obtain⟨F14,hob4⟩:Fr (some w11.heap.size) w13 w14∧OfB w14 w11.heap.size ⟨g.nid,s,sg,by_,amt,(cI n d).1,(cI n d).2⟩:=by rw[←hW];exact hob.set78 _ _
        clear hW n0 n1 n2 n3 n4 n5 n6 n7 n8 z7 z8 zl;have HADC:Hid (jJ g s sg by_ amt n d={g with offers:=g.offers++[⟨g.nid,s,sg,by_,amt,(cI n d).1,(cI n d).2⟩],nid:=g.nid+1}):=rfl;generalize(cI n d).1=rn at*
        generalize(cI n d).2=rd at*
        replace HOG:=sH (show OwG w14 w9.heap.size g (.slice A4 g.accs.length c4) (.slice A5 g.lines.length c5) (.slice A6 g.offers.length c6) from⟨bO HOG.out.a F14 (fun e=>by have:=HNB.out.1 _ e;have:=HS11.out;omega),bO HOG.out.l F14 (fun e=>by have:=HNB.out.2.1 _ e;have:=HS11.out;omega),bO HOG.out.o F14 (fun e=>by have:=HNB.out.2.2 _ e;have:=HS11.out;omega),HOG.out.al,HOG.out.ao,HOG.out.lo⟩);have HLE:Hid (w9.heap.size≤w14.heap.size):=by have h1:=HS10.out;have h2:=HS11.out;have h3:=aC hob4;unfold Hid;omega
        have hne11:some w11.heap.size≠some w.heap.size∧some w11.heap.size≠some (w.heap.size+3):=⟨fun e=>by injection e with e;have:=HBL.out;have:=HS10.out;have:=HS11.out;omega,fun e=>by injection e with e;have:=HBL.out;have:=HS10.out;have:=HS11.out;omega⟩;have hlg:=hlg.fr F14 hne11.1;have hrb:=hrb.fr F14 hne11.2;have FA:=FA.own F14 (fun x e=>by injection e with e;have:=HSZ.out;have:=HS10.out;have:=HS11.out;omega);clear F14 hga hgb hob hne11;have HNE:Hid ((Value.slice A6 g.offers.length c6).ownBlock≠some w.heap.size∧(Value.slice A6 g.offers.length c6).ownBlock≠some (w.heap.size+3)∧(Value.slice A6 g.offers.length c6).ownBlock≠some w11.heap.size):=⟨fun e=>by have:=bR HOG.out.o e;have:=HBL.out;omega,fun e=>by have:=bR HOG.out.o e;have:=HBL.out;omega,fun e=>by have:=HNB.out.2.2 _ e;have:=HS11.out;omega⟩;obtain⟨n0,n1,n2,n3,n4,n5,n6,n7,n8⟩:=hob4.cells;have HOG6:=HOG;obtain⟨k0,k1,k2,k3,k4,k5,k6⟩:=hlg.cells;have HLG:=sH hlg;have HGO:=sH hgo;clear hgo;go_upto_region 21 with(at_builtin;refine iW Et rfl _ _ rfl w9.heap.size A6 g.offers.length c6 _ rfl HOG.out.o 1 [.int .i64 g.nid,.int .i64 s,.string (bL sg.code),.int .i64 sg.iss,.string (bL by_.code),.int .i64 by_.iss,.int .i64 amt,.int .i64 rn,.int .i64 rd] _ _ rfl (by simp) rfl (by simp[Value.oneCell']) (by have:=HGO.out;omega) (by have:=HGO.out;unfold maxLen;omega) HLE.out ?_;intro A7 c7 w15 own7 F15 nb15;have hl15:=HLG.out.fr F15 HNE.out.1;have y3:=hl15.cells.2.2.2.1;have z3:=aB hl15 3;have zl:=aC hl15)
        obtain⟨G1,hG1⟩:∃G1:Lgr,G1={g with offers:=g.offers++[⟨g.nid,s,sg,by_,amt,rn,rd⟩]}:=⟨_,rfl⟩;have hlen:g.offers.length+1=G1.offers.length:=by rw[hG1];simp
        have own8:w15.ownsRow w9.heap.size 67 9 (.slice A7 (g.offers.length+1) c7) G1.offers.length (flR ofR G1.offers):=by rw[←hlen,hG1,cV];exact own7
        replace HOG:=sH (OwG.appO HOG.out (g':=G1) (by rw[hG1]) (by rw[hG1]) own8 F15 nb15);have hob5:=hob4.fr F15 HNE.out.2.2;have hrb:=hrb.fr F15 HNE.out.2.1;have FA:=FA.own F15 (fun x e=>by have:=bR HOG6.out.o e;have:=HSZ.out;omega);clear F15 nb15 own7 own8 n0 n1 n2 n3 n4 n5 n6 n7 n8 y3 z3 zl;clear k0 k1 k2 k3 k4 k5 k6;have hl16:=hl15.set3 (.slice A7 (g.offers.length+1) c7) G1 (by rw[hG1];exact⟨rfl,rfl,rfl,rfl⟩);have F16:=Fr.set1 w15 ⟨w.heap.size,3,none⟩ (.slice A7 (g.offers.length+1) c7);generalize w15.setCell _ _=w16 at*
        have F16:Fr (some w.heap.size) w15 w16:=F16;replace HOG:=sH (HOG.out.fr F16 (fun x e=>by injection e with e;have:=HBL.out;omega));have hob6:=hob5.fr F16 (fun e=>by injection e with e;have:=HBL.out;have:=HS10.out;have:=HS11.out;omega);have hrb:=hrb.fr F16;have FA:=FA.own F16;clear F16 hl15 hob5 hob4;have hn1:G1.nid=g.nid:=by rw[hG1]
        obtain⟨q0,q1,q2,q3,q4,q5,q6⟩:=hl16.cells;rw[hn1] at q4;have z4:=aB hl16 4;have zl:=aC hl16;have hwr:IntKind.i64.wrap (g.nid+1)=g.nid+1:=gY (by have:=HG3.out;omega) (by have:=HG3.out;omega);have HG1:=sH hG1;clear hG1;go_upto_region 22 with(fail)
        clear q0 q1 q2 q3 q4 q5 q6 z4 zl hwr;have hl17:=hl16.set4 (g.nid+1);have F17:=Fr.set1 w16 ⟨w.heap.size,4,none⟩ (.int .i64 (g.nid+1));generalize w16.setCell _ _=w17 at*
        have F17:Fr (some w.heap.size) w16 w17:=F17;obtain⟨G2,hG2⟩:∃G2:Lgr,G2={G1 with nid:=g.nid+1}:=⟨_,rfl⟩;have e1:G2.accs=G1.accs:=by rw[hG2]
        have e2:G2.lines=G1.lines:=by rw[hG2]
        have e3:G2.offers=G1.offers:=by rw[hG2]
        replace HOG:Hid (OwG w17 w9.heap.size G2 (.slice A4 G2.accs.length c4) (.slice A5 G2.lines.length c5) (.slice A7 G2.offers.length c7)):=by
         have h:=HOG.out.fr F17 (fun x e=>by injection e with e;have:=HBL.out;omega);have e4:g.accs=G2.accs:=by rw[e1,HG1.out]
         have e5:g.lines=G2.lines:=by rw[e2,HG1.out]
         rw[hlen,←e3,e4,e5] at h;exact⟨by rw[e1];rw[←e1];exact e1▸h.a,e2▸h.l,e3▸h.o,h.al,h.ao,h.lo⟩
        have hl18:LgB w17 w.heap.size G2 (.slice A4 G2.accs.length c4) (.slice A5 G2.lines.length c5) (.slice A7 G2.offers.length c7):=by
         have h:=hl17;have e4:g.accs=G2.accs:=by rw[e1,HG1.out]
         have e5:g.lines=G2.lines:=by rw[e2,HG1.out]
         rw[←hG2,hlen,←e3,e4,e5] at h;exact h
        replace HX:Hid (V=((G2,g.nid),0)):=by unfold Hid;rw[HX.out,HADC.out,hG2,HG1.out]
        have hob7:=hob6.fr F17 (fun e=>by injection e with e;have:=HBL.out;have:=HS10.out;have:=HS11.out;omega);have hrb:=hrb.fr F17;have FA:=FA.own F17;obtain⟨bo,hbo⟩:∃bo,bo=w11.heap.size:=⟨_,rfl⟩;have hbq:some (w.heap.size+3)≠some bo:=fun e=>by injection e with e;have:=HBL.out;have:=HS10.out;have:=HS11.out;omega
        rw[←hbo] at hob7 ⊢;clear F17 hl16 hl17 hob6 hG2 e1 e2 e3 hlen hn1 hbo;refine cF (fun W=>LgB W w.heap.size G2 (.slice A4 G2.accs.length c4) (.slice A5 G2.lines.length c5) (.slice A7 G2.offers.length c7)∧OfB W bo ⟨g.nid,s,sg,by_,amt,rn,rd⟩) (fun W=>Fr none w17 W) [3] [0,1,2,3,4,5] 130 [some 16,some 15,none,some 129,some 128,some 127] (by kernel_rfl) (by kernel_rfl) (by kernel_rfl) (Nat.le_refl _) (show(fun W=>Fr none w17 W) _ from(Fr.refl _ _).drew) (fun W h=>(by first|exact⟨hl18.fr h,hob7.fr h⟩|exact h.1)) ?_;have HF1:=sH (fun(wq:World) (hS:((fun W=>LgB W w.heap.size G2 (.slice A4 G2.accs.length c4) (.slice A5 G2.lines.length c5) (.slice A7 G2.offers.length c7)∧OfB W bo ⟨g.nid,s,sg,by_,amt,rn,rd⟩)) wq)=>And.intro (hS.1.cells) (hS.2.cells));refine FxP.q HF1.out [] [7] ?_;refine FxP.p [] [20] ?_;refine FxP.q HF1.out [(0,1,128)] [] ?_;refine FxP.store (S':=(fun W=>(LgB W w.heap.size G2 (.slice A4 G2.accs.length c4) (.slice A5 G2.lines.length c5) (.slice A7 G2.offers.length c7)∧OfB W bo ⟨g.nid,s,sg,by_,amt,rn,rd⟩)∧Fr (some (w.heap.size+3)) w17 W∧LgB W (w.heap.size+3) G2 (.slice A4 G2.accs.length c4) (.slice A5 G2.lines.length c5) (.slice A7 G2.offers.length c7))) rfl rfl rfl (by kernel_rfl) (fun ev w hS E=>?_) (fR.stay (fun W h=>(by first|exact⟨hl18.fr h,hob7.fr h⟩|exact h.1))) ?_
        ·obtain⟨m0,m1,m2,m3,m4,m5,m6,y0,y1,y2,y3,y4,y5,y6,ml⟩:=LgB.zc (hrb.fr hS);obtain⟨t127,t14,ec,ef,eg⟩:=E.get [(2,0,127)] [14] (by kernel_rfl);clear E;simp only[aG] at t127;refine⟨?_,?_,?_⟩;rotate_left
         ·go_simp;try with_reducible rfl
         exact⟨⟨(hl18.fr hS).fr (aW (hrb.fr hS)).1 (by simp),(hob7.fr hS).fr (aW (hrb.fr hS)).1 hbq⟩,hS.mono.same (aW (hrb.fr hS)).1,(aW (hrb.fr hS)).2⟩
        refine FxP.p [(1,2,129)] [] ?_;refine FxP.p [] [] ?_;refine FxP.done (fun W hW=>?_);simp only[bF];try simp only[sI]
        obtain⟨_,F9,hr9⟩:=hW;obtain⟨m0,m1,m2,m3,m4,m5,m6⟩:=hr9.cells;have HOF:=sH (HOG.out.fr F9 (fun x e=>by have e:some (w.heap.size+3)=some x:=e;injection e with e;have:=HBL.out;omega));have FAE:=FA.own F9;clear F9 hr9;go_wp2;refine bodyPost_ret (v:=.tuple #[.agg #[.int .i64 G2.num,.slice A4 G2.accs.length c4,.slice A5 G2.lines.length c5,.slice A7 G2.offers.length c7,.int .i64 G2.nid,.int .i64 G2.fees,.int .u64 (G2.link:Int)],.int .i64 g.nid,.int .i64 0]) (by simp[results,Tryz.results80,go_sem,m0,m1,m2,m3,m4,m5,m6]) rfl ?_;exact⟨_,_,_,by rw[HX.out],by rw[HX.out];exact HOF.out.base HSZ.out,FAE⟩
 have hv:C≠0:=h0;have he:E=C:=HE2.out.trans (if_pos hv);have HX:=sH (HVE.out (by rw[he];exact hv));rw[he] at HX;have hq:(C !=0)=true:=by simp[h0]
 clear h0 hv he HV HVE HE HE2;obtain⟨m0,m1,m2,m3,m4,m5,m6,y0,y1,y2,y3,y4,y5,y6,ml⟩:=LgB.zc hrb;go_wp2;refine bodyPost_ret (v:=.tuple #[.agg #[.int .i64 0,.slice none 0 0,.slice none 0 0,.slice none 0 0,.int .i64 0,.int .i64 0,.int .u64 0],.int .i64 0,.int .i64 C]) (by simp[results,Tryz.results80,go_sem,m0,m1,m2,m3,m4,m5,m6]) rfl ?_;exact tw2
end Go.Proofs.YthaggndnfamhjaaGreatDoor
