/- Texts, joined. -/
import Derived.Test.YthaggndnfamhjaaGreatDoorProg
import Derived.Test.YthaggndnfamhjaaGreatDoorJW36
import Derived.Test.YthaggndnfamhjaaGreatDoorJW15
import Derived.Test.YthaggndnfamhjaaGreatDoorJW30
import Derived.Test.YthaggndnfamhjaaGreatDoorJW4
import Derived.Test.YthaggndnfamhjaaGreatDoorJW32
import Derived.Test.YthaggndnfamhjaaGreatDoorJW8
import Derived.Test.YthaggndnfamhjaaGreatDoorJA

set_option linter.unusedSimpArgs false
set_option linter.unusedVariables false
set_option maxRecDepth 100000
set_option maxHeartbeats 16000000
namespace Go.Proofs.YthaggndnfamhjaaGreatDoor
open Go.RowKit
theorem Dp{g:Lgr}{s:Int}{sg by_:Ast}{amt n d:Int}(h:dM g s sg by_ amt n d=0):kY g s sg by_ amt n d=((iY g s sg by_ amt n d,g.nid),0):=by
 unfold kY;rw[if_neg (by omega)]
theorem BR{g:Lgr}{s:Int}{sg by_:Ast}{amt n d:Int}(h:dM g s sg by_ amt n d≠0):kY g s sg by_ amt n d=((lg0,0),dM g s sg by_ amt n d):=by
 unfold kY;rw[if_pos h]
theorem OwG.appO{w w':World}{base:Nat}{g g':Lgr}{va vl vo vo':Value}(h:OwG w base g va vl vo)(e1:g'.accs=g.accs)(e2:g'.lines=g.lines)(own':w'.ownsRow base 67 9 vo' g'.offers.length (flR ofR g'.offers))(F:Fr vo.ownBlock w w')(nb:pQ w.heap.size vo vo'):OwG w' base g' va vl vo':=by
 refine⟨?_,?_,own',h.al,?_,?_⟩
 ·rw[e1];exact AJ h.a F (fun b hb e=>h.ao b hb e)
 ·rw[e2];exact AJ h.l F (fun b hb e=>h.lo b hb e)
 ·intro x hx hy;rcases nb with nb|⟨q,nb,hq⟩
  ·exact h.ao x hx (nb▸hy)
  rw[nb] at hy;injection hy with hy
  have:=bS h.a hx;omega
 intro x hx hy;rcases nb with nb|⟨q,nb,hq⟩
 ·exact h.lo x hx (nb▸hy)
 rw[nb] at hy;injection hy with hy
 have:=bS h.l hx;omega
theorem BS{g:Lgr}(h:dU g=true):1≤g.nid∧g.nid≤1000000:=by
 unfold dU at h;simp only[Bool.and_eq_true,decide_eq_true_eq,dG] at h;omega
theorem OfB.set78{w:World}{b:Nat}{x:Ofr}(p q:Int)(h:OfB w b x):Fr (some b) w ((w.setCell ⟨b,7,none⟩ (.int .i64 p)).setCell ⟨b,8,none⟩ (.int .i64 q))∧OfB ((w.setCell ⟨b,7,none⟩ (.int .i64 p)).setCell ⟨b,8,none⟩ (.int .i64 q)) b {x with num:=p,den:=q}:=by
 refine⟨(Fr.set1 w ⟨b,7,none⟩ _).same (Fr.set1 _ ⟨b,8,none⟩ _),?_⟩;unfold OfB at h ⊢;have h2:=aJ (aJ h 7 (.int .i64 p)) 8 (.int .i64 q);simp only[List.setIfInBounds_toArray,List.set_cons_zero,List.set_cons_succ] at h2;exact h2
theorem LgB.set4{w:World}{b:Nat}{g:Lgr}{va vl vo:Value}(h:LgB w b g va vl vo)(x:Int):LgB (w.setCell ⟨b,4,none⟩ (.int .i64 x)) b {g with nid:=x} va vl vo:=by
 unfold LgB at h ⊢;have h2:=aJ h 4 (.int .i64 x);simp only[List.setIfInBounds_toArray,List.set_cons_zero,List.set_cons_succ] at h2;exact h2
theorem zY(g:Lgr)(va vl vo:Value)(s:Int)(sg by_:Ast)(amt n d:Int)(w:World)(h:LgS w none g va vl vo):
  Calls Tryz.prog 80 #[.agg #[.int .i64 g.num,va,vl,vo,.int .i64 g.nid,.int .i64 g.fees,.int .u64 (g.link:Int)],.int .i64 s,.agg #[.string (bL sg.code),.int .i64 sg.iss],.agg #[.string (bL by_.code),.int .i64 by_.iss],.int .i64 amt,.int .i64 n,.int .i64 d] w (NwY (kY g s sg by_ amt n d) w):=by
 obtain⟨V,hV⟩:∃V,V=kY g s sg by_ amt n d:=⟨_,rfl⟩;rw[←hV];have HV:=sH hV;clear hV;obtain⟨E,hE⟩:∃E,E=dM g s sg by_ amt n d:=⟨_,rfl⟩;have HVE:Hid (E≠0→V=((lg0,0),E)):=fun hne=>by rw[HV.out,hE];exact BR (by rw[←hE];exact hne)
 have HE:=sH hE;have hE2:=hE;unfold dM at hE2;have HE2:=sH hE2;clear hE hE2;obtain⟨A1,c1,rfl, -, -, -⟩:=aK h.1;obtain⟨A2,c2,rfl, -, -, -⟩:=aR h.2.1;obtain⟨A3,c3,rfl, -, -, -⟩:=aZ h.2.2.1;have HG:=sH h;clear h;go_enter Tryz.func80,Tryz.ntmps80;go_upto_region 1 with(fail)
 generalize hW:(((w.alloc _).alloc _).alloc _).alloc _=w1;obtain⟨FA,hlg,hga,hgb,hrb⟩:Fr none w w1∧LgB w1 w.heap.size g (.slice A1 g.accs.length c1) (.slice A2 g.lines.length c2) (.slice A3 g.offers.length c3)∧eB w1 (w.heap.size+1) sg∧eB w1 (w.heap.size+2) by_∧LgB w1 (w.heap.size+3) lg0 (.slice none 0 0) (.slice none 0 0) (.slice none 0 0):=by rw[←hW];exact iT w _ _ _ _
 clear hW;obtain⟨k0,k1,k2,k3,k4,k5,k6⟩:=hlg.cells;obtain⟨a0,a1⟩:=hga.cells;obtain⟨a2,a3⟩:=hgb.cells;go_wp2_with fail;refine(fM g _ _ _ w1 (HG.out.fr FA)).mono ?_;rintro e w2 ⟨rfl,F2⟩;clear k0 k1 k2 k3 k4 k5 k6 a0 a1 a2 a3;have FA:=FA.pure F2;have hlg:=hlg.fr F2;have hga:=hga.fr F2;have hgb:=hgb.fr F2;have hrb:=hrb.fr F2;clear F2;obtain⟨C,hC⟩:∃C,C=aP g:=⟨_,rfl⟩;have HCC:=sH hC;rw[←hC] at HE2 ⊢;clear hC;by_cases h0:C=0
 ·subst h0;replace HE2:=sH (HE2.out.trans (if_neg (by simp)));obtain⟨k0,k1,k2,k3,k4,k5,k6⟩:=hlg.cells;go_wp2_with fail;refine(gR g.accs _ s w2 (HG.out.1.fr FA)).mono ?_;rintro e w3 ⟨rfl,F3⟩;have hfs:=dY g.accs s;generalize dI g.accs s=R at*
  obtain⟨⟨f1,f2,f3⟩,FB⟩:=R;have HFB:Hid (FB=(aN g.accs s).isSome):=hfs;rw[←hfs] at HE2;clear hfs;clear k0 k1 k2 k3 k4 k5 k6;have FA:=FA.pure F3;have hlg:=hlg.fr F3;have hga:=hga.fr F3;have hgb:=hgb.fr F3;have hrb:=hrb.fr F3;clear F3;go_upto_region 5 with(fail)
  generalize hW:w3.alloc _=w4;have F4:Fr none w3 w4:=hW▸(Fr.refl none w3).alloc _;clear hW;have FA:=FA.pure F4;have hlg:=hlg.fr F4;have hga:=hga.fr F4;have hgb:=hgb.fr F4;have hrb:=hrb.fr F4;clear F4;cases FB with
  |false=>
   have hq:False∨true=true:=.inr rfl;replace HE2:Hid (E=67):=HE2.out.trans (if_pos rfl);have he:=HE2.out;have HX:=sH (HVE.out (by rw[he];decide));rw[he] at HX;clear he hq HV HVE HE HE2;obtain⟨m0,m1,m2,m3,m4,m5,m6,y0,y1,y2,y3,y4,y5,y6,ml⟩:=LgB.zc hrb;go_wp2;refine bodyPost_ret (v:=.tuple #[.agg #[.int .i64 0,.slice none 0 0,.slice none 0 0,.slice none 0 0,.int .i64 0,.int .i64 0,.int .u64 0],.int .i64 0,.int .i64 67]) (by simp[results,Tryz.results80,go_sem,m0,m1,m2,m3,m4,m5,m6]) rfl ?_;have F9:=(aH (g:=lg0) (va:=.slice none 0 0) (vl:=.slice none 0 0) (vo:=.slice none 0 0) hrb).1;exact⟨.slice none 0 0,.slice none 0 0,.slice none 0 0,by rw[HX.out]<;>rfl,by rw[HX.out];exact OwG.zero _ _,FA.own F9⟩
  |true=>
   replace HE2:=sH (HE2.out.trans (if_neg (by simp)));go_upto_region 7 with(fail)
   go_cut [38,39,40,41,42,43,44,45,46,47,48,49,50,51] (fun s38 _ _ _ _ _ _ _ _ _ _ _ _ _ wq=>s38= .bool (!aU sg|| !aU by_||decide (sg=by_))∧Fr none w4 wq)
   case first=>
    clear HE2 HV HVE HE HCC;obtain⟨a0,a1⟩:=hga.cells;obtain⟨a2,a3⟩:=hgb.cells;go_wp2_with fail;refine(bR sg w4).mono ?_;rintro e w5 ⟨rfl,F5⟩;clear a0 a1 a2 a3;have FB:=F5;have hga:=hga.fr F5;have hgb:=hgb.fr F5;obtain⟨a0,a1⟩:=hga.cells;obtain⟨a2,a3⟩:=hgb.cells;generalize aU sg=v1 at*
    cases v1 with
    |false=>
     go_wp2_with fail;go_meet
     exact⟨rfl,FB⟩
    |true=>
     go_wp2_with fail;refine(bR by_ w5).mono ?_;rintro e w6 ⟨rfl,F6⟩;clear a0 a1 a2 a3;have FB:=FB.pure F6;have hga:=hga.fr F6;have hgb:=hgb.fr F6;obtain⟨a0,a1⟩:=hga.cells;obtain⟨a2,a3⟩:=hgb.cells;generalize aU by_=v2 at*
     cases v2 with
     |false=>
      go_wp2_with fail;go_meet
      exact⟨rfl,FB⟩
     |true=>
      by_cases hgg:sg=by_
      ·subst hgg;go_wp2_with fail;go_meet
       exact⟨by simp,FB⟩
      have HF:Hid ((!true|| !true||decide (sg=by_))=false):=by unfold Hid;rw[decide_eq_false hgg];rfl
      by_cases q1:sg.code=by_.code
      ·have e1:(bL sg.code).toList=(bL by_.code).toList:=by rw[q1]
       have e2:¬sg.iss=by_.iss:=fun e=>hgg (by cases hh:sg;cases hk:by_;rw[hh,hk] at q1 e;simp only at q1 e;rw[q1,e]);clear q1 hgg;go_wp2_with fail;go_meet
       exact⟨by rw[HF.out],FB⟩
      have e1:¬(bL sg.code).toList=(bL by_.code).toList:=fun e=>q1 (by rw[bT,bT] at e;exact e);clear q1 hgg;go_wp2_with fail;go_meet
      exact⟨by rw[HF.out],FB⟩
   case rest=>
    obtain⟨rfl,Fq⟩:=hcut;obtain⟨Q,hQ⟩:∃Q,Q=(!aU sg|| !aU by_||decide (sg=by_)):=⟨_,rfl⟩;have hQC:Q=true↔(aU sg=false∨aU by_=false∨sg=by_):=by
     rw[hQ];simp only[Bool.or_eq_true,Bool.not_eq_true',decide_eq_true_eq,or_assoc]
    rw[←hQ];have HQC:=sH hQC;clear hQ hQC;have FA:=FA.pure Fq;have hlg:=hlg.fr Fq;have hga:=hga.fr Fq;have hgb:=hgb.fr Fq;have hrb:=hrb.fr Fq;clear Fq;cases Q with
    |true=>
     have hq:=HQC.out.1 rfl;have he:E=71:=HE2.out.trans (if_pos hq);have HX:=sH (HVE.out (by rw[he];decide));rw[he] at HX;clear he hq HV HVE HE HE2 HQC;obtain⟨m0,m1,m2,m3,m4,m5,m6,y0,y1,y2,y3,y4,y5,y6,ml⟩:=LgB.zc hrb;go_wp2;refine bodyPost_ret (v:=.tuple #[.agg #[.int .i64 0,.slice none 0 0,.slice none 0 0,.slice none 0 0,.int .i64 0,.int .i64 0,.int .u64 0],.int .i64 0,.int .i64 71]) (by simp[results,Tryz.results80,go_sem,m0,m1,m2,m3,m4,m5,m6]) rfl ?_;have F9:=(aH (g:=lg0) (va:=.slice none 0 0) (vl:=.slice none 0 0) (vo:=.slice none 0 0) hrb).1;exact⟨.slice none 0 0,.slice none 0 0,.slice none 0 0,by rw[HX.out]<;>rfl,by rw[HX.out];exact OwG.zero _ _,FA.own F9⟩
    |false=>
     replace HE2:=sH (HE2.out.trans (if_neg (fun e=>by have:=HQC.out.2 e;cases this)));clear HQC;go_upto_region 9 with(fail)
     go_cut [53,54,55,56,57,58,59,60,61,62,63,64,65,66] (fun s53 _ _ _ _ _ _ _ _ _ _ _ _ _ wq=>s53= .bool (decide (amt<1∨aV amt=false∨bQ n d=false))∧wq=wc)
     case first=>
      clear HE2 HV HVE HE HCC;by_cases ha:amt=0
      ·subst ha;have HZ:Hid (decide ((0:Int)<1∨aV 0=false∨bQ n d=false)=true):=decide_eq_true (.inl (by decide));go_wp2_with fail;go_meet
       exact⟨by rw[HZ.out],rfl⟩
      have hz:(amt == 0)=false:=by simp[ha]
      have HA:=sH ha;clear ha;go_wp2_with fail;refine(cF amt _).mono ?_;rintro e w7 ⟨rfl,hww⟩;subst hww;obtain⟨v1,hv1⟩:∃v,v=aV amt:=⟨_,rfl⟩;rw[←hv1];cases v1 with
      |false=>
       have HZ:Hid (decide (amt<1∨aV amt=false∨bQ n d=false)=true):=decide_eq_true (.inr (.inl hv1.symm));clear hv1;go_wp2_with fail;go_meet
       exact⟨by rw[HZ.out],rfl⟩
      |true=>
       have HV1:Hid (aV amt=true):=hv1.symm;clear hv1;go_wp2_with fail;refine(gL n d _).mono ?_;rintro e w7 ⟨rfl,hww⟩;subst hww;have HZ:Hid (decide (amt<1∨aV amt=false∨bQ n d=false)= !bQ n d):=by
        have h1:¬amt<1:=by have:=dG.1 HV1.out;have:=HA.out;omega
        unfold Hid;rw[HV1.out];cases bQ n d<;>simp[h1]
       obtain⟨v2,hv2⟩:∃v,v=bQ n d:=⟨_,rfl⟩;rw[←hv2];have HV2:=sH hv2;clear hv2;cases v2<;>(go_wp2_with fail;go_meet;exact⟨by rw[HZ.out,←HV2.out]<;>rfl,rfl⟩)
     case rest=>
      obtain⟨rfl,hwq⟩:=hcut;subst hwq;by_cases hQ:amt<1∨aV amt=false∨bQ n d=false
      ·rw[decide_eq_true hQ];have he:E=72:=HE2.out.trans (if_pos hQ);have HX:=sH (HVE.out (by rw[he];decide));rw[he] at HX;clear he hQ HV HVE HE HE2;obtain⟨m0,m1,m2,m3,m4,m5,m6,y0,y1,y2,y3,y4,y5,y6,ml⟩:=LgB.zc hrb;go_wp2;refine bodyPost_ret (v:=.tuple #[.agg #[.int .i64 0,.slice none 0 0,.slice none 0 0,.slice none 0 0,.int .i64 0,.int .i64 0,.int .u64 0],.int .i64 0,.int .i64 72]) (by simp[results,Tryz.results80,go_sem,m0,m1,m2,m3,m4,m5,m6]) rfl ?_;have F9:=(aH (g:=lg0) (va:=.slice none 0 0) (vl:=.slice none 0 0) (vo:=.slice none 0 0) hrb).1;exact⟨.slice none 0 0,.slice none 0 0,.slice none 0 0,by rw[HX.out]<;>rfl,by rw[HX.out];exact OwG.zero _ _,FA.own F9⟩
      rw[decide_eq_false hQ];replace HE2:=sH (HE2.out.trans (if_neg hQ));have HQA:=sH hQ;clear hQ;go_upto_region 11 with(fail)
      obtain⟨k0,k1,k2,k3,k4,k5,k6⟩:=hlg.cells;obtain⟨a0,a1⟩:=hga.cells;obtain⟨a2,a3⟩:=hgb.cells;go_wp2_with fail;refine(pF g _ _ _ s sg _ (HG.out.fr FA)).mono ?_;rintro e w7 ⟨rfl,F7⟩;clear k0 k1 k2 k3 k4 k5 k6 a0 a1 a2 a3;have FA:=FA.pure F7;have hlg:=hlg.fr F7;have hga:=hga.fr F7;have hgb:=hgb.fr F7;have hrb:=hrb.fr F7;clear F7;obtain⟨v1,hv1⟩:∃v,v=dV g s sg:=⟨_,rfl⟩;rw[←hv1] at HE2 ⊢;clear hv1;cases v1 with
      |false=>
       have he:E=70:=HE2.out.trans (if_pos (.inl rfl));have HX:=sH (HVE.out (by rw[he];decide));rw[he] at HX;clear he HV HVE HE HE2;obtain⟨m0,m1,m2,m3,m4,m5,m6,y0,y1,y2,y3,y4,y5,y6,ml⟩:=LgB.zc hrb;go_wp2;refine bodyPost_ret (v:=.tuple #[.agg #[.int .i64 0,.slice none 0 0,.slice none 0 0,.slice none 0 0,.int .i64 0,.int .i64 0,.int .u64 0],.int .i64 0,.int .i64 70]) (by simp[results,Tryz.results80,go_sem,m0,m1,m2,m3,m4,m5,m6]) rfl ?_;have F9:=(aH (g:=lg0) (va:=.slice none 0 0) (vl:=.slice none 0 0) (vo:=.slice none 0 0) hrb).1;exact⟨.slice none 0 0,.slice none 0 0,.slice none 0 0,by rw[HX.out]<;>rfl,by rw[HX.out];exact OwG.zero _ _,FA.own F9⟩
      |true=>
       obtain⟨k0,k1,k2,k3,k4,k5,k6⟩:=hlg.cells;obtain⟨a0,a1⟩:=hga.cells;obtain⟨a2,a3⟩:=hgb.cells;go_wp2_with fail;refine(pF g _ _ _ s by_ _ (HG.out.fr FA)).mono ?_;rintro e w8 ⟨rfl,F8⟩;clear k0 k1 k2 k3 k4 k5 k6 a0 a1 a2 a3;have FA:=FA.pure F8;have hlg:=hlg.fr F8;have hga:=hga.fr F8;have hgb:=hgb.fr F8;have hrb:=hrb.fr F8;clear F8;obtain⟨v2,hv2⟩:∃v,v=dV g s by_:=⟨_,rfl⟩;rw[←hv2] at HE2 ⊢;clear hv2;cases v2 with
       |false=>
        have he:E=70:=HE2.out.trans (if_pos (.inr rfl));have HX:=sH (HVE.out (by rw[he];decide));rw[he] at HX;clear he HV HVE HE HE2;obtain⟨m0,m1,m2,m3,m4,m5,m6,y0,y1,y2,y3,y4,y5,y6,ml⟩:=LgB.zc hrb;go_wp2;refine bodyPost_ret (v:=.tuple #[.agg #[.int .i64 0,.slice none 0 0,.slice none 0 0,.slice none 0 0,.int .i64 0,.int .i64 0,.int .u64 0],.int .i64 0,.int .i64 70]) (by simp[results,Tryz.results80,go_sem,m0,m1,m2,m3,m4,m5,m6]) rfl ?_;have F9:=(aH (g:=lg0) (va:=.slice none 0 0) (vl:=.slice none 0 0) (vo:=.slice none 0 0) hrb).1;exact⟨.slice none 0 0,.slice none 0 0,.slice none 0 0,by rw[HX.out]<;>rfl,by rw[HX.out];exact OwG.zero _ _,FA.own F9⟩
       |true=>
        replace HE2:=sH (HE2.out.trans (if_neg (by simp)));obtain⟨k0,k1,k2,k3,k4,k5,k6⟩:=hlg.cells;obtain⟨a0,a1⟩:=hga.cells;obtain⟨a2,a3⟩:=hgb.cells;go_wp2_with fail;refine(rB g _ _ _ s sg _ (HG.out.fr FA)).mono ?_;rintro e w9 ⟨rfl,F9⟩;clear k0 k1 k2 k3 k4 k5 k6 a0 a1 a2 a3;have FA:=FA.pure F9;have hlg:=hlg.fr F9;have hga:=hga.fr F9;have hgb:=hgb.fr F9;have hrb:=hrb.fr F9;clear F9;obtain⟨v3,hv3⟩:∃v,v=fE g s sg:=⟨_,rfl⟩;rw[←hv3] at HE2 ⊢;clear hv3;by_cases hh:v3=0
        ·subst hh;have he:E=66:=HE2.out.trans (if_pos rfl);have HX:=sH (HVE.out (by rw[he];decide));rw[he] at HX;clear he HV HVE HE HE2;obtain⟨m0,m1,m2,m3,m4,m5,m6,y0,y1,y2,y3,y4,y5,y6,ml⟩:=LgB.zc hrb;go_wp2;refine bodyPost_ret (v:=.tuple #[.agg #[.int .i64 0,.slice none 0 0,.slice none 0 0,.slice none 0 0,.int .i64 0,.int .i64 0,.int .u64 0],.int .i64 0,.int .i64 66]) (by simp[results,Tryz.results80,go_sem,m0,m1,m2,m3,m4,m5,m6]) rfl ?_;have F9:=(aH (g:=lg0) (va:=.slice none 0 0) (vl:=.slice none 0 0) (vo:=.slice none 0 0) hrb).1;exact⟨.slice none 0 0,.slice none 0 0,.slice none 0 0,by rw[HX.out]<;>rfl,by rw[HX.out];exact OwG.zero _ _,FA.own F9⟩
        replace HE2:=sH (HE2.out.trans (if_neg hh));have hz3:(v3 == 0)=false:=by simp[hh]
        clear hh;go_upto_region 15 with(fail)
        clear hz3;by_cases hl:g.offers.length=40
        ·have hz:((g.offers.length:Int) == 40)=true:=by rw[beq_iff_eq];omega
         have he:E=3:=HE2.out.trans (if_pos (.inl hl));have HX:=sH (HVE.out (by rw[he];decide));rw[he] at HX;clear he hl HV HVE HE HE2;obtain⟨k0,k1,k2,k3,k4,k5,k6⟩:=hlg.cells;obtain⟨m0,m1,m2,m3,m4,m5,m6,y0,y1,y2,y3,y4,y5,y6,ml⟩:=LgB.zc hrb;go_wp2;refine bodyPost_ret (v:=.tuple #[.agg #[.int .i64 0,.slice none 0 0,.slice none 0 0,.slice none 0 0,.int .i64 0,.int .i64 0,.int .u64 0],.int .i64 0,.int .i64 3]) (by simp[results,Tryz.results80,go_sem,m0,m1,m2,m3,m4,m5,m6]) rfl ?_;have F9:=(aH (g:=lg0) (va:=.slice none 0 0) (vl:=.slice none 0 0) (vo:=.slice none 0 0) hrb).1;exact⟨.slice none 0 0,.slice none 0 0,.slice none 0 0,by rw[HX.out]<;>rfl,by rw[HX.out];exact OwG.zero _ _,FA.own F9⟩
        have hz:((g.offers.length:Int) == 40)=false:=by rw[beq_eq_false_iff_ne];omega
        by_cases hn:g.nid=1000000
        ·have hzn:(g.nid == 1000000)=true:=by rw[beq_iff_eq];exact hn
         have he:E=3:=HE2.out.trans (if_pos (.inr hn));have HX:=sH (HVE.out (by rw[he];decide));rw[he] at HX;clear he hn hl HV HVE HE HE2;obtain⟨k0,k1,k2,k3,k4,k5,k6⟩:=hlg.cells;obtain⟨m0,m1,m2,m3,m4,m5,m6,y0,y1,y2,y3,y4,y5,y6,ml⟩:=LgB.zc hrb;go_wp2;refine bodyPost_ret (v:=.tuple #[.agg #[.int .i64 0,.slice none 0 0,.slice none 0 0,.slice none 0 0,.int .i64 0,.int .i64 0,.int .u64 0],.int .i64 0,.int .i64 3]) (by simp[results,Tryz.results80,go_sem,m0,m1,m2,m3,m4,m5,m6]) rfl ?_;have F9:=(aH (g:=lg0) (va:=.slice none 0 0) (vl:=.slice none 0 0) (vo:=.slice none 0 0) hrb).1;exact⟨.slice none 0 0,.slice none 0 0,.slice none 0 0,by rw[HX.out]<;>rfl,by rw[HX.out];exact OwG.zero _ _,FA.own F9⟩
        have hzn:(g.nid == 1000000)=false:=by rw[beq_eq_false_iff_ne];exact hn
        have he:E=0:=HE2.out.trans (if_neg (fun h=>h.elim hl hn));have HX:Hid (V=((iY g s sg by_ amt n d,g.nid),0)):=by unfold Hid;rw[HV.out];exact Dp (by rw[←HE.out];exact he)
        clear he hn hl HV HVE HE HE2;obtain⟨k0,k1,k2,k3,k4,k5,k6⟩:=hlg.cells;go_upto_region 17 with(fail)
        clear hz hzn;clear k0 k1 k2 k3 k4 k5 k6;have hk:=HCC.out.symm;obtain⟨g1,g2,g3, -, -⟩:=bD.1 hk;obtain⟨l1,l2, -, -⟩:=bO.1 g1;obtain⟨y1, -, -⟩:=bI.1 l1;have HG3:Hid (1≤g.nid∧g.nid≤1000000):=BS g3;clear g1 g3 l1 hk;obtain⟨k0,k1,k2,k3,k4,k5,k6⟩:=hlg.cells;go_wp2_with fail;refine(mL g _ _ _ w9 (HG.out.fr FA) (by omega) (by omega) (by omega)).mono ?_;rintro e w10 ⟨va',vl',vo',rfl,og,F10⟩;obtain⟨A4,c4,rfl⟩:=aM og.a;obtain⟨A5,c5,rfl⟩:=aM og.l;obtain⟨A6,c6,rfl⟩:=aM og.o;have HSZ:Hid (w.heap.size≤w9.heap.size):=FA.size;have HBL:Hid (w.heap.size+3<w9.heap.size):=aC hrb;have HS10:Hid (w9.heap.size≤w10.heap.size):=F10.size;have HNB:Hid ((∀x,(Value.slice A4 g.accs.length c4).ownBlock=some x→x<w10.heap.size)∧(∀x,(Value.slice A5 g.lines.length c5).ownBlock=some x→x<w10.heap.size)∧(∀x,(Value.slice A6 g.offers.length c6).ownBlock=some x→x<w10.heap.size)):=⟨fun x e=>(bS og.a e).2,fun x e=>(bS og.l e).2,fun x e=>(bS og.o e).2⟩;have HOG:=sH og;clear og y1 l2;have hgo:g.offers.length≤40:=g2;clear g2;clear k0 k1 k2 k3 k4 k5 k6;have FA:=FA.pure F10;have hlg:=hlg.fr F10;have hga:=hga.fr F10;have hgb:=hgb.fr F10;have hrb:=hrb.fr F10;clear F10;obtain⟨k0,k1,k2,k3,k4,k5,k6⟩:=hlg.cells;have z0:=aB hlg 0;have z1:=aB hlg 1;have z2:=aB hlg 2;have z3:=aB hlg 3;have z4:=aB hlg 4;have z5:=aB hlg 5;have z6:=aB hlg 6;have zl:=aC hlg;go_upto_region 18 with(fail)
        generalize hW:(((((((w10.setCell ⟨w.heap.size,0,none⟩ (.int .i64 g.num)).setCell ⟨w.heap.size,1,none⟩ (.slice A4 g.accs.length c4)).setCell ⟨w.heap.size,2,none⟩ (.slice A5 g.lines.length c5)).setCell ⟨w.heap.size,3,none⟩ (.slice A6 g.offers.length c6)).setCell ⟨w.heap.size,4,none⟩ (.int .i64 g.nid)).setCell ⟨w.heap.size,5,none⟩ (.int .i64 g.fees)).setCell ⟨w.heap.size,6,none⟩ (.int .u64 (g.link:Int)))=w11;obtain⟨F3,hb3⟩:Fr (some w.heap.size) w10 w11∧LgB w11 w.heap.size g (.slice A4 g.accs.length c4) (.slice A5 g.lines.length c5) (.slice A6 g.offers.length c6):=by rw[←hW];exact aH hlg
        clear hW;clear k0 k1 k2 k3 k4 k5 k6;clear z0 z1 z2 z3 z4 z5 z6 zl;have HOG:=sH (HOG.out.fr F3 (fun x e=>by injection e with e;have:=HBL.out;omega));have hga:=hga.fr F3;have hgb:=hgb.fr F3;have hrb:=hrb.fr F3;have FA:=FA.own F3;have HS11:Hid (w10.heap.size≤w11.heap.size):=F3.size;clear F3 hlg;have hlg:=hb3;clear hb3;obtain⟨k0,k1,k2,k3,k4,k5,k6⟩:=hlg.cells;obtain⟨a0,a1⟩:=hga.cells;obtain⟨a2,a3⟩:=hgb.cells;go_upto_region 19 with(fail)
        generalize hW:w11.alloc _=w12;have F12:Fr none w11 w12:=hW▸(Fr.refl none w11).alloc _;have hob:OfB w12 w11.heap.size ⟨g.nid,s,sg,by_,amt,0,0⟩:=by rw[←hW];exact aD _ _
        clear hW;clear k0 k1 k2 k3 k4 k5 k6;clear a0 a1 a2 a3;have HOG:=sH (HOG.out.fr F12);have FA:=FA.pure F12;have hlg:=hlg.fr F12;have hga:=hga.fr F12;have hgb:=hgb.fr F12;have hrb:=hrb.fr F12;clear F12;go_wp2_with fail;refine(qY n d w12).mono ?_;rintro e w13 ⟨rfl,F13⟩;have HOG:=sH (HOG.out.fr F13);have hob:=hob.fr F13;have FA:=FA.pure F13;have hlg:=hlg.fr F13;have hga:=hga.fr F13;have hgb:=hgb.fr F13;have hrb:=hrb.fr F13;clear F13;obtain⟨n0,n1,n2,n3,n4,n5,n6,n7,n8⟩:=hob.cells;have z7:=aB hob 7;have z8:=aB hob 8;have zl:=aC hob;go_upto_region 20 with(fail)
        generalize hW:(w13.setCell ⟨w11.heap.size,7,none⟩ (.int .i64 (cJ n d).1)).setCell ⟨w11.heap.size,8,none⟩ (.int .i64 (cJ n d).2)=w14;obtain⟨F14,hob4⟩:Fr (some w11.heap.size) w13 w14∧OfB w14 w11.heap.size ⟨g.nid,s,sg,by_,amt,(cJ n d).1,(cJ n d).2⟩:=by rw[←hW];exact hob.set78 _ _
        clear hW n0 n1 n2 n3 n4 n5 n6 n7 n8 z7 z8 zl;have HADC:Hid (iY g s sg by_ amt n d={g with offers:=g.offers++[⟨g.nid,s,sg,by_,amt,(cJ n d).1,(cJ n d).2⟩],nid:=g.nid+1}):=rfl;generalize(cJ n d).1=rn at*
        generalize(cJ n d).2=rd at*
        replace HOG:=sH (show OwG w14 w9.heap.size g (.slice A4 g.accs.length c4) (.slice A5 g.lines.length c5) (.slice A6 g.offers.length c6) from⟨bM HOG.out.a F14 (fun e=>by have:=HNB.out.1 _ e;have:=HS11.out;omega),bM HOG.out.l F14 (fun e=>by have:=HNB.out.2.1 _ e;have:=HS11.out;omega),bM HOG.out.o F14 (fun e=>by have:=HNB.out.2.2 _ e;have:=HS11.out;omega),HOG.out.al,HOG.out.ao,HOG.out.lo⟩);have HLE:Hid (w9.heap.size≤w14.heap.size):=by have h1:=HS10.out;have h2:=HS11.out;have h3:=aC hob4;unfold Hid;omega
        have hne11:some w11.heap.size≠some w.heap.size∧some w11.heap.size≠some (w.heap.size+3):=⟨fun e=>by injection e with e;have:=HBL.out;have:=HS10.out;have:=HS11.out;omega,fun e=>by injection e with e;have:=HBL.out;have:=HS10.out;have:=HS11.out;omega⟩;have hlg:=hlg.fr F14 hne11.1;have hrb:=hrb.fr F14 hne11.2;have FA:=FA.own F14 (fun x e=>by injection e with e;have:=HSZ.out;have:=HS10.out;have:=HS11.out;omega);clear F14 hga hgb hob hne11;have HNE:Hid ((Value.slice A6 g.offers.length c6).ownBlock≠some w.heap.size∧(Value.slice A6 g.offers.length c6).ownBlock≠some (w.heap.size+3)∧(Value.slice A6 g.offers.length c6).ownBlock≠some w11.heap.size):=⟨fun e=>by have:=bS HOG.out.o e;have:=HBL.out;omega,fun e=>by have:=bS HOG.out.o e;have:=HBL.out;omega,fun e=>by have:=HNB.out.2.2 _ e;have:=HS11.out;omega⟩;obtain⟨n0,n1,n2,n3,n4,n5,n6,n7,n8⟩:=hob4.cells;have HOG6:=HOG;obtain⟨k0,k1,k2,k3,k4,k5,k6⟩:=hlg.cells;have HLG:=sH hlg;have HGO:=sH hgo;clear hgo;go_upto_region 21 with(at_builtin;refine jS CX rfl _ _ rfl w9.heap.size A6 g.offers.length c6 _ rfl HOG.out.o 1 [.int .i64 g.nid,.int .i64 s,.string (bL sg.code),.int .i64 sg.iss,.string (bL by_.code),.int .i64 by_.iss,.int .i64 amt,.int .i64 rn,.int .i64 rd] _ _ rfl (by simp) rfl (by simp[Value.oneCell']) (by have:=HGO.out;omega) (by have:=HGO.out;unfold maxLen;omega) HLE.out ?_;intro A7 c7 w15 own7 F15 nb15;have hl15:=HLG.out.fr F15 HNE.out.1;have y3:=hl15.cells.2.2.2.1;have z3:=aB hl15 3;have zl:=aC hl15)
        obtain⟨G1,hG1⟩:∃G1:Lgr,G1={g with offers:=g.offers++[⟨g.nid,s,sg,by_,amt,rn,rd⟩]}:=⟨_,rfl⟩;have hlen:g.offers.length+1=G1.offers.length:=by rw[hG1];simp
        have own8:w15.ownsRow w9.heap.size 67 9 (.slice A7 (g.offers.length+1) c7) G1.offers.length (flR ofR G1.offers):=by rw[←hlen,hG1,dH];exact own7
        replace HOG:=sH (OwG.appO HOG.out (g':=G1) (by rw[hG1]) (by rw[hG1]) own8 F15 nb15);have hob5:=hob4.fr F15 HNE.out.2.2;have hrb:=hrb.fr F15 HNE.out.2.1;have FA:=FA.own F15 (fun x e=>by have:=bS HOG6.out.o e;have:=HSZ.out;omega);clear F15 nb15 own7 own8 n0 n1 n2 n3 n4 n5 n6 n7 n8 y3 z3 zl;clear k0 k1 k2 k3 k4 k5 k6;have hl16:=hl15.set3 (.slice A7 (g.offers.length+1) c7) G1 (by rw[hG1];exact⟨rfl,rfl,rfl,rfl⟩);have F16:=Fr.set1 w15 ⟨w.heap.size,3,none⟩ (.slice A7 (g.offers.length+1) c7);generalize w15.setCell _ _=w16 at*
        have F16:Fr (some w.heap.size) w15 w16:=F16;replace HOG:=sH (HOG.out.fr F16 (fun x e=>by injection e with e;have:=HBL.out;omega));have hob6:=hob5.fr F16 (fun e=>by injection e with e;have:=HBL.out;have:=HS10.out;have:=HS11.out;omega);have hrb:=hrb.fr F16;have FA:=FA.own F16;clear F16 hl15 hob5 hob4;have hn1:G1.nid=g.nid:=by rw[hG1]
        obtain⟨q0,q1,q2,q3,q4,q5,q6⟩:=hl16.cells;rw[hn1] at q4;have z4:=aB hl16 4;have zl:=aC hl16;have hwr:IntKind.i64.wrap (g.nid+1)=g.nid+1:=gZ (by have:=HG3.out;omega) (by have:=HG3.out;omega);have HG1:=sH hG1;clear hG1;go_upto_region 22 with(fail)
        clear q0 q1 q2 q3 q4 q5 q6 z4 zl hwr;have hl17:=hl16.set4 (g.nid+1);have F17:=Fr.set1 w16 ⟨w.heap.size,4,none⟩ (.int .i64 (g.nid+1));generalize w16.setCell _ _=w17 at*
        have F17:Fr (some w.heap.size) w16 w17:=F17;obtain⟨G2,hG2⟩:∃G2:Lgr,G2={G1 with nid:=g.nid+1}:=⟨_,rfl⟩;have e1:G2.accs=G1.accs:=by rw[hG2]
        have e2:G2.lines=G1.lines:=by rw[hG2]
        have e3:G2.offers=G1.offers:=by rw[hG2]
        replace HOG:Hid (OwG w17 w9.heap.size G2 (.slice A4 G2.accs.length c4) (.slice A5 G2.lines.length c5) (.slice A7 G2.offers.length c7)):=by
         have h:=HOG.out.fr F17 (fun x e=>by injection e with e;have:=HBL.out;omega);have e4:g.accs=G2.accs:=by rw[e1,HG1.out]
         have e5:g.lines=G2.lines:=by rw[e2,HG1.out]
         rw[hlen,←e3,e4,e5] at h;exact⟨by rw[e1];rw[←e1];exact e1▸h.a,e2▸h.l,e3▸h.o,h.al,h.ao,h.lo⟩
        have hl18:LgB w17 w.heap.size G2 (.slice A4 G2.accs.length c4) (.slice A5 G2.lines.length c5) (.slice A7 G2.offers.length c7):=by
         have h:=hl17;have e4:g.accs=G2.accs:=by rw[e1,HG1.out]
         have e5:g.lines=G2.lines:=by rw[e2,HG1.out]
         rw[←hG2,hlen,←e3,e4,e5] at h;exact h
        replace HX:Hid (V=((G2,g.nid),0)):=by unfold Hid;rw[HX.out,HADC.out,hG2,HG1.out]
        have hob7:=hob6.fr F17 (fun e=>by injection e with e;have:=HBL.out;have:=HS10.out;have:=HS11.out;omega);have hrb:=hrb.fr F17;have FA:=FA.own F17;obtain⟨bo,hbo⟩:∃bo,bo=w11.heap.size:=⟨_,rfl⟩;have hbq:some (w.heap.size+3)≠some bo:=fun e=>by injection e with e;have:=HBL.out;have:=HS10.out;have:=HS11.out;omega
        rw[←hbo] at hob7 ⊢;clear F17 hl16 hl17 hob6 hG2 e1 e2 e3 hlen hn1 hbo;refine cB (fun W=>LgB W w.heap.size G2 (.slice A4 G2.accs.length c4) (.slice A5 G2.lines.length c5) (.slice A7 G2.offers.length c7)∧OfB W bo ⟨g.nid,s,sg,by_,amt,rn,rd⟩) (fun W=>Fr none w17 W) [3] [0,1,2,3,4,5] 130 [some 16,some 15,none,some 129,some 128,some 127] (by kernel_rfl) (by kernel_rfl) (by kernel_rfl) (Nat.le_refl _) (show(fun W=>Fr none w17 W) _ from(Fr.refl _ _).drew) (fun W h=>(by first|exact⟨hl18.fr h,hob7.fr h⟩|exact h.1)) ?_;have HF39:=sH (fun(wq:World) (hS:((fun W=>LgB W w.heap.size G2 (.slice A4 G2.accs.length c4) (.slice A5 G2.lines.length c5) (.slice A7 G2.offers.length c7)∧OfB W bo ⟨g.nid,s,sg,by_,amt,rn,rd⟩)) wq)=>And.intro (hS.1.cells) (hS.2.cells));refine FxP.q HF39.out [] [7] ?_;refine FxP.p [] [20] ?_;refine FxP.q HF39.out [(0,1,128)] [] ?_;refine FxP.store (S':=(fun W=>(LgB W w.heap.size G2 (.slice A4 G2.accs.length c4) (.slice A5 G2.lines.length c5) (.slice A7 G2.offers.length c7)∧OfB W bo ⟨g.nid,s,sg,by_,amt,rn,rd⟩)∧Fr (some (w.heap.size+3)) w17 W∧LgB W (w.heap.size+3) G2 (.slice A4 G2.accs.length c4) (.slice A5 G2.lines.length c5) (.slice A7 G2.offers.length c7))) rfl rfl rfl (by kernel_rfl) (fun ev w hS E=>?_) (fA.stay (fun W h=>(by first|exact⟨hl18.fr h,hob7.fr h⟩|exact h.1))) ?_
        ·obtain⟨m0,m1,m2,m3,m4,m5,m6,y0,y1,y2,y3,y4,y5,y6,ml⟩:=LgB.zc (hrb.fr hS);obtain⟨t127,t14,ec,ef,eg⟩:=E.get [(2,0,127)] [14] (by kernel_rfl);clear E;simp only[aG] at t127;refine⟨?_,?_,?_⟩;rotate_left
         ·go_simp;try with_reducible rfl
         exact⟨⟨(hl18.fr hS).fr (aH (hrb.fr hS)).1 (by simp),(hob7.fr hS).fr (aH (hrb.fr hS)).1 hbq⟩,hS.mono.same (aH (hrb.fr hS)).1,(aH (hrb.fr hS)).2⟩
        refine FxP.p [(1,2,129)] [] ?_;refine FxP.p [] [] ?_;refine FxP.done (fun W hW=>?_);simp only[bF];try simp only[sI]
        obtain⟨_,F9,hr9⟩:=hW;obtain⟨m0,m1,m2,m3,m4,m5,m6⟩:=hr9.cells;have HOF:=sH (HOG.out.fr F9 (fun x e=>by have e:some (w.heap.size+3)=some x:=e;injection e with e;have:=HBL.out;omega));have FAE:=FA.own F9;clear F9 hr9;go_wp2;refine bodyPost_ret (v:=.tuple #[.agg #[.int .i64 G2.num,.slice A4 G2.accs.length c4,.slice A5 G2.lines.length c5,.slice A7 G2.offers.length c7,.int .i64 G2.nid,.int .i64 G2.fees,.int .u64 (G2.link:Int)],.int .i64 g.nid,.int .i64 0]) (by simp[results,Tryz.results80,go_sem,m0,m1,m2,m3,m4,m5,m6]) rfl ?_;exact⟨_,_,_,by rw[HX.out],by rw[HX.out];exact HOF.out.base HSZ.out,FAE⟩
 have hv:C≠0:=h0;have he:E=C:=HE2.out.trans (if_pos hv);have HX:=sH (HVE.out (by rw[he];exact hv));rw[he] at HX;have hq:(C !=0)=true:=by simp[h0]
 clear h0 hv he HV HVE HE HE2;obtain⟨m0,m1,m2,m3,m4,m5,m6,y0,y1,y2,y3,y4,y5,y6,ml⟩:=LgB.zc hrb;go_wp2;refine bodyPost_ret (v:=.tuple #[.agg #[.int .i64 0,.slice none 0 0,.slice none 0 0,.slice none 0 0,.int .i64 0,.int .i64 0,.int .u64 0],.int .i64 0,.int .i64 C]) (by simp[results,Tryz.results80,go_sem,m0,m1,m2,m3,m4,m5,m6]) rfl ?_;have F9:=(aH (g:=lg0) (va:=.slice none 0 0) (vl:=.slice none 0 0) (vo:=.slice none 0 0) hrb).1;exact⟨.slice none 0 0,.slice none 0 0,.slice none 0 0,by rw[HX.out]<;>rfl,by rw[HX.out];exact OwG.zero _ _,FA.own F9⟩
theorem Dq{l:List aS}{id:Int}{i:Nat}(hi:i≤l.length)(h1:∀k (hk:k<l.length),k<i→l[k].id<id)(h2:∀k (hk:k<l.length),i≤k→id≤l[k].id):kW l id=i:=by
 unfold kW;have e:l=l.take i++l.drop i:=(List.take_append_drop i l).symm;rw[e,List.countP_append];have a1:(l.take i).countP (fun x=>decide (x.id<id))=(l.take i).length:=List.countP_eq_length.2 fun x hx=>by
  obtain⟨k,hk,rfl⟩:=List.getElem_of_mem hx;rw[List.length_take] at hk;rw[List.getElem_take];exact decide_eq_true (h1 k (by omega) (by omega))
 have a2:(l.drop i).countP (fun x=>decide (x.id<id))=0:=List.countP_eq_zero.2 fun x hx=>by
  obtain⟨k,hk,rfl⟩:=List.getElem_of_mem hx;rw[List.length_drop] at hk;rw[List.getElem_drop];have:=h2 (i+k) (by omega) (by omega);simp only[decide_eq_true_eq];omega
 rw[a1,a2,List.length_take];omega
theorem rI(y:aS)(id:Int)(w:World)(h1:0≤y.id∧y.id≤1000)(h2:0≤id∧id≤1000):Calls Tryz.prog 143 #[.agg #[.int .i64 y.id,.int .i64 y.bal,.int .i64 y.seq],.int .i64 id] w fun e w'=>e= .returned (.int .i64 (y.id - id))∧Fr none w w':=by
 have hw:IntKind.i64.wrap (y.id - id)=y.id - id:=gZ (by omega) (by omega);clear h1 h2;go_enter Tryz.func143,Tryz.ntmps143;go_upto_region 1 with(fail)
 generalize hW:w.alloc _=wb;have F1:Fr none w wb:=hW▸(Fr.refl none w).alloc _;have b1:wb.heap[w.heap.size]?=some (.cells #[.int .i64 y.id,.int .i64 y.bal,.int .i64 y.seq] 59 (0,0)):=by rw[←hW];exact aD _ _
 have c0:wb.cell? ⟨w.heap.size,0,none⟩=some (.int .i64 y.id):=by rw[aA b1];rfl
 clear hW;go_wp2;go_ret;exact⟨rfl,F1⟩
theorem BT(l:List aS)(A:Option Addr)(c:Nat)(id:Int)(w:World)(h:SlR aQ w none (.slice A l.length c) l)(hk:∀x ∈ l,1≤x.id∧x.id≤1000)(hs:l.Pairwise fun a b=>a.id<b.id)(h2:0≤id∧id≤1000)(hl:l.length≤1000):
  Calls Tryz.prog 142 #[.slice A l.length c,.int .i64 id,.func (.func 143) #[] #[]] w fun e w'=>∃b,e= .returned (.tuple #[.int .i64 (kW l id:Int),.bool b])∧Fr none w w':=by
 obtain⟨A',c',hv, -, -,hcc⟩:=aK h;injection hv with hA _ hc
 subst hA hc;have HS:=sH h;have HK:=sH hk;have HSO:=sH hs;have HI2:=sH h2;clear h hk hs h2;by_cases hz:l.length=0
 ·obtain rfl:=List.eq_nil_of_length_eq_zero hz;clear hcc hz;rw[show([]:List aS).length=0 from rfl];have HX:Hid (((kW [] id:Nat):Int)=0):=by unfold Hid kW;rfl
  go_enter Tryz.func142,Tryz.ntmps142;go_wp2_with fail;go_loopw [9,10] (fun s9 s10 wr=>s9= .int .i64 0∧s10= .int .i64 0∧wr=w) (fun s9 s10 _=>0)
  case atStart=>exact⟨rfl,rfl,rfl⟩
  case round=>
   obtain⟨rfl,rfl,rfl⟩:=hrel;go_wp2;refine bodyPost_ret (v:=.tuple #[.int .i64 0,.bool false]) (by simp[results,Tryz.results142,go_sem]) rfl ?_;exact⟨_,by rw[HX.out],Fr.refl _ _⟩
 obtain⟨bc,off,rfl,hb,_,hcell⟩:=hcc (by omega);go_enter Tryz.func142,Tryz.ntmps142;go_wp2_with fail;go_loopw [9,10] (fun s9 s10 wr=>∃i j:Nat,s9= .int .i64 (i:Int)∧s10= .int .i64 (j:Int)∧i≤j∧j≤l.length∧Hid ((∀k (hk:k<l.length),k<i→l[k].id<id)∧∀k (hk:k<l.length),j≤k→id≤l[k].id)∧Fr none w wr) (fun s9 s10 _=>(intOf s10).toNat - (intOf s9).toNat)
 case atStart=>exact⟨0,l.length,rfl,rfl,Nat.zero_le _,Nat.le_refl _,⟨fun k hk h=>absurd h (by omega),fun k hk h=>absurd h (by omega)⟩,Fr.refl _ _⟩
 case round=>
  obtain⟨i,j,rfl,rfl,hij,hjl,HV,FW⟩:=hrel;obtain⟨wz,hwz⟩:∃wz:World,wz=wr:=⟨_,rfl⟩;subst hwz;by_cases hlt:i<j
  ·have d0:decide ((i:Int)<(j:Int))=true:=decide_eq_true (by omega);have hadd:IntKind.i64.wrap ((i:Int)+(j:Int))=((i+j:Nat):Int):=by rw[show(i:Int)+(j:Int)=((i+j:Nat):Int) by omega];exact gZ (by omega) (by omega)
   have hadd2:wrap64 ((i:Int)+(j:Int))=((i+j:Nat):Int):=by rw[show(i:Int)+(j:Int)=((i+j:Nat):Int) by omega];exact fZ (by omega) (by omega)
   go_upto_region 5 with(fail)
   obtain⟨m,hm⟩:∃m,m=(i+j)/2:=⟨_,rfl⟩;have hme:((i:Int)+(j:Int))/2=(m:Int):=by omega
   rw[hme];have hmi:i≤m:=by omega
   have hmj:m<j:=by omega
   clear hme hm hadd hadd2 d0;obtain⟨c1,c2,c3⟩:=hcell m (by omega);have c1:=FW.keep c1;have c2:=FW.keep c2;have c3:=FW.keep c3;have HB1:=sH (HK.out l[m] (List.getElem_mem _));have hlo:Hid (l[m].id<id→∀k (hk:k<l.length),k<m+1→l[k].id<id):=fun h k hk hk2=>by
    by_cases he:k=m
    ·subst he;exact h
    have:=List.pairwise_iff_getElem.1 HSO.out k m hk (by omega) (by omega);omega
   have hhi:Hid (id≤l[m].id→∀k (hk:k<l.length),m≤k→id≤l[k].id):=fun h k hk hk2=>by
    by_cases he:k=m
    ·subst he;exact h
    have:=List.pairwise_iff_getElem.1 HSO.out m k (by omega) hk (by omega);omega
   generalize l[m]=x at*
   have q1:(m:Int)<(l.length:Int):=by omega
   have q2:(0:Int)≤(m:Int):=by omega
   go_wp2_with fail;refine(rI x id wz (by have:=HB1.out;omega) HI2.out).mono ?_;rintro e w3 ⟨rfl,F3⟩;clear c1 c2 c3;have FW:=FW.pure F3;by_cases hd:x.id - id<0
   ·have hq:decide (x.id - id<0)=true:=decide_eq_true hd;have hH:=sH (hlo.out (by omega));have hwm:IntKind.i64.wrap ((m:Int)+1)=(m:Int)+1:=gZ (by omega) (by omega);have hwm2:wrap64 ((m:Int)+1)=(m:Int)+1:=fZ (by omega) (by omega);clear hd;go_wp2_with fail;go_roundw
    case rel=>exact⟨m+1,j,by go_num,rfl,by omega,hjl,⟨hH.out,HV.out.2⟩,FW⟩
    case measure=>simp[intOf]<;>omega
   have hq:decide (x.id - id<0)=false:=decide_eq_false hd;have hH:=sH (hhi.out (by omega));clear hd;go_wp2_with fail;go_roundw
   case rel=>exact⟨i,m,rfl,rfl,by omega,by omega,⟨HV.out.1,hH.out⟩,FW⟩
   case measure=>simp[intOf]<;>omega
  obtain rfl:i=j:=by omega
  have hpos:kW l id=i:=Dq hjl HV.out.1 HV.out.2;have HX:Hid ((kW l id:Int)=(i:Int)):=by unfold Hid;rw[hpos]
  have d0:decide ((i:Int)<(i:Int))=false:=decide_eq_false (by omega);clear hpos;by_cases hin:i<l.length
  ·obtain⟨c1,c2,c3⟩:=hcell i hin;have c1:=FW.keep c1;have c2:=FW.keep c2;have c3:=FW.keep c3;have HB1:=sH (HK.out l[i] (List.getElem_mem _));generalize l[i]=x at*
   have q1:(i:Int)<(l.length:Int):=by omega
   have d1:decide ((i:Int)<(l.length:Int))=true:=decide_eq_true (by omega);go_wp2_with fail;refine(rI x id wz (by have:=HB1.out;omega) HI2.out).mono ?_;rintro e w3 ⟨rfl,F3⟩;clear c1 c2 c3;go_wp2;refine bodyPost_ret (v:=.tuple #[.int .i64 (i:Int),.bool (x.id - id == 0)]) (by simp[results,Tryz.results142,go_sem]) rfl ?_;exact⟨_,by rw[HX.out],FW.pure F3⟩
  have d1:decide ((i:Int)<(l.length:Int))=false:=decide_eq_false (by omega);go_wp2;refine bodyPost_ret (v:=.tuple #[.int .i64 (i:Int),.bool false]) (by simp[results,Tryz.results142,go_sem]) rfl ?_;exact⟨_,by rw[HX.out],FW⟩
theorem BU(l:List aS)(v:Value)(id bal:Int)(w:World)(h:SlR aQ w none v l):Calls Tryz.prog 110 #[v,.int .i64 id,.int .i64 bal] w (NwE aQ (uS l id bal) w):=by
 obtain⟨V,hV⟩:∃V,V=uS l id bal:=⟨_,rfl⟩;rw[←hV];unfold uS at hV;have HV:=sH hV;clear hV;obtain⟨A,c,rfl, -, -, -⟩:=aK h;have HS:=sH h;clear h;go_enter Tryz.func110,Tryz.ntmps110;go_wp2_with fail;refine(uU l _ w HS.out).mono ?_;rintro e w1 ⟨rfl,FA⟩;obtain⟨C,hC⟩:∃C,C=cH l:=⟨_,rfl⟩;have HCC:=sH hC;rw[←hC] at HV ⊢;clear hC;by_cases h0:C=0
 ·subst h0;replace HV:=sH (HV.out.trans (if_neg (by simp)));have hr:rgt 0=0:=rfl;rw[hr];clear hr;go_wp2_with fail;refine(xR id w1).mono ?_;rintro e w2 ⟨rfl,hww⟩;subst hww;obtain⟨v1,hv1⟩:∃v,v=inR id 1 1000:=⟨_,rfl⟩;have HV1:=sH hv1;rw[←hv1] at HV ⊢;clear hv1;cases v1 with
  |false=>
   have HX:=sH (HV.out.trans (if_pos (.inl rfl)));go_wp2_with fail;go_ret2;exact⟨.slice none 0 0,by rw[HX.out]<;>rfl,by rw[HX.out];exact SlD.nil _ _ _,FA⟩
  |true=>
   go_wp2_with fail;refine(lU l _ id _ (HS.out.fr FA)).mono ?_;rintro e w3 ⟨rfl,F3⟩;have FA:=FA.pure F3;clear F3;obtain⟨P,hP⟩:∃P,P=sM l id:=⟨_,rfl⟩;rw[←hP] at HV ⊢;clear hP;by_cases hp:0≤P
   ·have HX:=sH (HV.out.trans (if_pos (.inr hp)));have hd:decide (0≤P)=true:=decide_eq_true hp;clear hp;go_wp2_with fail;go_ret2;exact⟨.slice none 0 0,by rw[HX.out]<;>rfl,by rw[HX.out];exact SlD.nil _ _ _,FA⟩
   replace HV:=sH (HV.out.trans (if_neg (by simp[hp])));have hd:decide (0≤P)=false:=decide_eq_false hp;clear hp;go_wp2_with fail;refine(cF bal _).mono ?_;rintro e w4 ⟨rfl,hww⟩;subst hww;clear hd;obtain⟨v2,hv2⟩:∃v,v=aV bal:=⟨_,rfl⟩;rw[←hv2] at HV ⊢;clear hv2;cases v2 with
   |false=>
    have HX:=sH (HV.out.trans (if_pos rfl));go_wp2_with fail;go_ret2;exact⟨.slice none 0 0,by rw[HX.out]<;>rfl,by rw[HX.out];exact SlD.nil _ _ _,FA⟩
   |true=>
    replace HV:=sH (HV.out.trans (if_neg (by simp)));by_cases h20:l.length=20
    ·have HX:=sH (HV.out.trans (if_pos h20));have hd:((l.length:Int) == 20)=true:=by rw[beq_iff_eq];omega
     clear h20;go_wp2_with fail;go_ret2;exact⟨.slice none 0 0,by rw[HX.out]<;>rfl,by rw[HX.out];exact SlD.nil _ _ _,FA⟩
    have HX:=sH (HV.out.trans (if_neg h20));have hd:((l.length:Int) == 20)=false:=by rw[beq_eq_false_iff_ne];omega
    obtain⟨y1,y2,y3⟩:=bI.1 HCC.out.symm;have hid:1≤id∧id≤1000:=by
     have:=HV1.out;unfold inR at this;simpa using this.symm
    have HID:=sH hid;have HY2:Hid (∀x ∈ l,1≤x.id∧x.id≤1000):=fun x hx=>(cR.1 (y2 x hx)).1;have HY3:=sH y3;clear h20 y2 y3 hid;go_wp2_with fail;refine(BT l A c id _ (HS.out.fr FA) HY2.out HY3.out (by have:=HID.out;omega) (by omega)).mono ?_;rintro e w5 ⟨fb,rfl,F5⟩;have FA:=FA.pure F5;clear F5 hd;have hps:kW l id≤l.length:=List.countP_le_length;generalize kW l id=P at*
    go_wp2_with fail;refine(iM l _ w5 (HS.out.fr FA) (by omega)).mono ?_;rintro e w6 ⟨A4,c4,rfl,own,F6⟩;have HSZ:Hid (w.heap.size≤w5.heap.size):=FA.size;have FA:=FA.pure F6;have h56:w5.heap.size≤w6.heap.size:=F6.size;have OW:=sH own;clear own F6;go_wp2_with fail;refine(zM l ⟨id,bal,0⟩ A4 c4 P w6.heap.size w5.heap.size _ (by omega) (by omega) (Nat.le_trans (show w5.heap.size≤w6.heap.size+1 by omega) (Nat.le_of_eq (Array.size_push _).symm)) (aW OW.out ((Fr.refl none w6).alloc _) (by simp)) (aD _ _) (fun e=>by have:=bS OW.out e;omega)).mono ?_;rintro e w8 ⟨A8,c8,rfl,ow8,F8⟩;have FA:=(FA.alloc _).own F8 (fun x hx=>by have:=bS OW.out hx;have:=HSZ.out;omega);have OW8:=sH ow8;clear ow8 F8;go_wp2_with fail;go_ret2;exact⟨.slice A8 (l.length+1) c8,by rw[HX.out];rfl,by rw[HX.out];exact(SlD.own_dn OW8.out).keep (dB HSZ.out),FA⟩
 have HX:=sH (HV.out.trans (if_pos h0));have hr:rgt C=74:=by unfold rgt;rw[if_neg h0]
 rw[hr];clear hr h0;go_wp2_with fail;go_ret2;exact⟨.slice none 0 0,by rw[HX.out]<;>rfl,by rw[HX.out];exact SlD.nil _ _ _,FA⟩
def NwW(g:Lgr)(va vl vo:Value)(r:Lgr × Int)(w:World)(e:Ending)(w':World):Prop:=∃Aa na ca Al nl cl Ao no co,e= .returned (.tuple #[.agg #[.int .i64 r.1.num,.slice Aa na ca,.slice Al nl cl,.slice Ao no co,.int .i64 r.1.nid,.int .i64 r.1.fees,.int .u64 (r.1.link:Int)],.int .i64 r.2])∧(r.2=0→∀q,LgS w q g va vl vo→(∀k,q=some k→k<w.heap.size)→LgS w' q r.1 (.slice Aa na ca) (.slice Al nl cl) (.slice Ao no co))∧Fr none w w'
def WkB(w:World)(b:Nat)(g:Lgr)(va vl vo:Value)(src:Int):Prop:=w.heap[b]?=some (.cells #[.int .i64 g.num,va,vl,vo,.int .i64 g.nid,.int .i64 g.fees,.int .u64 (g.link:Int),.int .i64 src] 92 (0,0))
theorem WkB.fr{w w':World}{b:Nat}{g:Lgr}{va vl vo:Value}{src:Int}{r:Option Nat}(h:WkB w b g va vl vo src)(f:Fr r w w')(hr:r≠some b:=by simp):WkB w' b g va vl vo src:=aF h f hr
theorem WkB.cells{w:World}{b:Nat}{g:Lgr}{va vl vo:Value}{src:Int}(h:WkB w b g va vl vo src):w.cell? ⟨b,0,none⟩=some (.int .i64 g.num)∧w.cell? ⟨b,1,none⟩=some va∧w.cell? ⟨b,2,none⟩=some vl∧w.cell? ⟨b,3,none⟩=some vo∧w.cell? ⟨b,4,none⟩=some (.int .i64 g.nid)∧w.cell? ⟨b,5,none⟩=some (.int .i64 g.fees)∧w.cell? ⟨b,6,none⟩=some (.int .u64 (g.link:Int))∧w.cell? ⟨b,7,none⟩=some (.int .i64 src):=by
 refine⟨?_,?_,?_,?_,?_,?_,?_,?_⟩<;>(rw[aA h];rfl)
theorem WkB.set1{w:World}{b:Nat}{g:Lgr}{va vl vo:Value}{src:Int}(h:WkB w b g va vl vo src)(v:Value):WkB (w.setCell ⟨b,1,none⟩ v) b g v vl vo src:=by
 unfold WkB at h ⊢;have h2:=aJ h 1 v;simp only[List.setIfInBounds_toArray,List.set_cons_zero,List.set_cons_succ] at h2;exact h2
theorem WkB.set2{w:World}{b:Nat}{g:Lgr}{va vl vo:Value}{src:Int}(h:WkB w b g va vl vo src)(v:Value):WkB (w.setCell ⟨b,2,none⟩ v) b g va v vo src:=by
 unfold WkB at h ⊢;have h2:=aJ h 2 v;simp only[List.setIfInBounds_toArray,List.set_cons_zero,List.set_cons_succ] at h2;exact h2
theorem SlD.nn{α:Type}{R:Rec α}{w:World}{B:Nat}{v:Value}{l:List α}{r:Option Nat}(h:SlD w (Dn B w) R.sz v (flR R l))(ok:∀x ∈ l,R.ok x)(hr:∀k,r=some k→k<B):SlR R w r v l:=⟨h.keep (pR hr),ok⟩
theorem BV{l:List aS}(h:cH l=0):∀x ∈ l,aQ.ok x:=fun x hx=>by
 have:=cR.1 ((bI.1 h).2.1 x hx);exact⟨⟨by omega,by omega⟩,⟨by omega,by omega⟩,by omega,by omega⟩
theorem BW(g:Lgr)(va vl vo:Value)(src:Int)(x:OpX)(w:World)(h:LgS w none g va vl vo)(hp:OpD w none x)(hk:aP g=0):Calls Tryz.prog 77 #[.agg #[.int .i64 g.num,va,vl,vo,.int .i64 g.nid,.int .i64 g.fees,.int .u64 (g.link:Int),.int .i64 src],opV x.o x.v] w (NwW g va vl vo ({g with accs:=(nD g src x.o).1},(nD g src x.o).2) w):=by
 obtain⟨V,hV⟩:∃V,V=nD g src x.o:=⟨_,rfl⟩;have HOKV:Hid (V.2=0→iU {g with accs:=V.1}):=fun h0=>by rw[hV] at h0 ⊢;exact gT (Bj hk h0).1 h.ok.2.2.2.2.2.2
 rw[←hV];unfold nD at hV;have HV:=sH hV;clear hV hk;obtain⟨A1,c1,rfl, -, -, -⟩:=aK h.1;obtain⟨A2,c2,rfl, -, -, -⟩:=aR h.2.1;obtain⟨A3,c3,rfl, -, -, -⟩:=aZ h.2.2.1;have HG:=sH h;have HP:=sH hp;clear h hp;unfold opV opL OpX.v;go_enter Tryz.func77,Tryz.ntmps77;go_upto_region 1 with(fail)
 generalize hW:((w.alloc _).alloc _).alloc _=w1;obtain⟨FA,hwk,hop,hrb⟩:Fr none w w1∧WkB w1 w.heap.size g (.slice A1 g.accs.length c1) (.slice A2 g.lines.length c2) (.slice A3 g.offers.length c3) src∧OpB w1 (w.heap.size+1) x.o x.v∧LgB w1 (w.heap.size+2) lg0 (.slice none 0 0) (.slice none 0 0) (.slice none 0 0):=by rw[←hW];exact eR w _ _ _
 clear hW;obtain⟨k0,k1,k2,k3,k4,k5,k6,k7⟩:=hwk.cells;obtain⟨o0,o1,o2,o3,o4,o5,o6,o7,o8,o9,o10,o11⟩:=hop.cells;go_wp2_with fail;refine(zL g.accs _ src x.o.amt w1 (HG.out.fr FA).1).mono ?_;rintro e w2 ⟨v2,rfl,S2,F2⟩;have HB1:Hid (w.heap.size+2<w1.heap.size):=aC hrb;clear k0 k1 k2 k3 k4 k5 k6 k7 o0 o1 o2 o3 o4 o5 o6 o7 o8 o9 o10 o11;have HACC:Hid ((dQ (fB x.o.amt) g.accs src).2=0→∀y ∈ (dQ (fB x.o.amt) g.accs src).1,aQ.ok y):=fun h0=>BV (xN h0).1;generalize dQ (fB x.o.amt) g.accs src=T at*
 obtain⟨tl,te⟩:=T;dsimp only at HV S2 HACC ⊢;have hs2:=S2;obtain⟨Ar,nr,cr,rfl, -, -, -, -⟩:=hs2;have HS:=sH S2;clear S2;have FA:=FA.pure F2;have hwk:=hwk.fr F2;have hop:=hop.fr F2;have hrb:=hrb.fr F2;clear F2;by_cases ht:te=0
 ·subst ht;replace HV:=sH (HV.out.trans (if_pos rfl));replace HACC:=sH (HACC.out rfl);obtain⟨k0,k1,k2,k3,k4,k5,k6,k7⟩:=hwk.cells;obtain⟨o0,o1,o2,o3,o4,o5,o6,o7,o8,o9,o10,o11⟩:=hop.cells;go_wp2_with fail;refine(BU tl _ x.o.to_ x.o.amt w2 (SlD.nn HS.out HACC.out (by simp))).mono ?_;rintro e w3 ⟨v3,rfl,S3,F3⟩;rw[←HV.out] at S3 ⊢;have hs3:=S3;obtain⟨Ar,nr,cr,rfl, -, -, -, -⟩:=hs3;have HB1:Hid (w.heap.size+2<w2.heap.size):=aC hrb;clear HS;have HS:=sH S3;clear S3;clear k0 k1 k2 k3 k4 k5 k6 k7 o0 o1 o2 o3 o4 o5 o6 o7 o8 o9 o10 o11;have FA:=FA.pure F3;have hwk:=hwk.fr F3;have hop:=hop.fr F3;have hrb:=hrb.fr F3;clear F3;have kw:=aC hwk;have zw:=aB hwk 1;obtain⟨k0,k1,k2,k3,k4,k5,k6,k7⟩:=hwk.cells;obtain⟨o0,o1,o2,o3,o4,o5,o6,o7,o8,o9,o10,o11⟩:=hop.cells;have F4:=Fr.set1 w3 ⟨w.heap.size,1,none⟩ (.slice Ar nr cr);have hwk4:=hwk.set1 (.slice Ar nr cr);go_upto_region 5 with(fail)
  clear k0 k1 k2 k3 k4 k5 k6 k7 o0 o1 o2 o3 o4 o5 o6 o7 o8 o9 o10 o11;clear kw zw;generalize World.setCell w3 _ _=w9 at*
  have F4:Fr (some w.heap.size) w3 w9:=F4;have hrb:=hrb.fr F4;have HS:=sH (HS.out.keep (kO F4 (fun y e=>by injection e with e;have:=HB1.out;omega)));have FA:=FA.own F4 (fun y e=>by injection e with e;omega);clear F4 hwk hop;have hwk:=hwk4;clear hwk4;obtain⟨k0,k1,k2,k3,k4,k5,k6,k7⟩:=hwk.cells;obtain⟨m0,m1,m2,m3,m4,m5,m6,y0,y1,y2,y3,y4,y5,y6,ml⟩:=LgB.zc hrb;go_wp2;refine bodyPost_ret (v:=.tuple #[.agg #[.int .i64 g.num,(.slice Ar nr cr),(.slice A2 g.lines.length c2),.slice A3 g.offers.length c3,.int .i64 g.nid,.int .i64 g.fees,.int .u64 (g.link:Int)],.int .i64 V.2]) (by simp[results,Tryz.results77,go_sem,m0,m1,m2,m3,m4,m5,m6]) rfl ?_;have F9:=(aH (g:={g with accs:=V.1}) (va:=(.slice Ar nr cr)) (vl:=(.slice A2 g.lines.length c2)) (vo:=.slice A3 g.offers.length c3) hrb).1;exact⟨Ar,nr,cr,_,_,_,_,_,_,rfl,fun h0 q hq hqw=>⟨SlD.nn (HS.out.keep (kO F9 (fun y e=>by injection e with e;have:=HB1.out;omega))) (HOKV.out h0).1 (fun k hk=>by have:=hqw k hk;have:=HB1.out;omega),(hq.2.1.fr (FA.own F9).mono),(hq.2.2.1.fr (FA.own F9).mono),HG.out.2.2.2⟩,FA.own F9⟩
 replace HV:=sH (HV.out.trans (if_neg ht));have hq:(te == 0)=false:=by simp[ht]
 have hte:te=V.2:=by rw[HV.out]
 have htl:tl=V.1:=by rw[HV.out]
 subst hte htl;clear ht;have kw:=aC hwk;have zw:=aB hwk 1;obtain⟨k0,k1,k2,k3,k4,k5,k6,k7⟩:=hwk.cells;obtain⟨o0,o1,o2,o3,o4,o5,o6,o7,o8,o9,o10,o11⟩:=hop.cells;have F4:=Fr.set1 w2 ⟨w.heap.size,1,none⟩ (.slice Ar nr cr);have hwk4:=hwk.set1 (.slice Ar nr cr);go_upto_region 5 with(fail)
 clear k0 k1 k2 k3 k4 k5 k6 k7 o0 o1 o2 o3 o4 o5 o6 o7 o8 o9 o10 o11;clear kw zw;generalize World.setCell w2 _ _=w9 at*
 have F4:Fr (some w.heap.size) w2 w9:=F4;have hrb:=hrb.fr F4;have HS:=sH (HS.out.keep (kO F4 (fun y e=>by injection e with e;have:=HB1.out;omega)));have FA:=FA.own F4 (fun y e=>by injection e with e;omega);clear F4 hwk hop;have hwk:=hwk4;clear hwk4;obtain⟨k0,k1,k2,k3,k4,k5,k6,k7⟩:=hwk.cells;obtain⟨m0,m1,m2,m3,m4,m5,m6,y0,y1,y2,y3,y4,y5,y6,ml⟩:=LgB.zc hrb;go_wp2;refine bodyPost_ret (v:=.tuple #[.agg #[.int .i64 g.num,(.slice Ar nr cr),(.slice A2 g.lines.length c2),.slice A3 g.offers.length c3,.int .i64 g.nid,.int .i64 g.fees,.int .u64 (g.link:Int)],.int .i64 V.2]) (by simp[results,Tryz.results77,go_sem,m0,m1,m2,m3,m4,m5,m6]) rfl ?_;have F9:=(aH (g:={g with accs:=V.1}) (va:=(.slice Ar nr cr)) (vl:=(.slice A2 g.lines.length c2)) (vo:=.slice A3 g.offers.length c3) hrb).1;exact⟨Ar,nr,cr,_,_,_,_,_,_,rfl,fun h0 q hq hqw=>⟨SlD.nn (HS.out.keep (kO F9 (fun y e=>by injection e with e;have:=HB1.out;omega))) (HOKV.out h0).1 (fun k hk=>by have:=hqw k hk;have:=HB1.out;omega),(hq.2.1.fr (FA.own F9).mono),(hq.2.2.1.fr (FA.own F9).mono),HG.out.2.2.2⟩,FA.own F9⟩
theorem BX(g:Lgr)(va vl vo:Value)(src:Int)(x:OpX)(w:World)(h:LgS w none g va vl vo)(hp:OpD w none x)(hk:aP g=0)(ha:(aN g.accs src).isSome=true):Calls Tryz.prog 79 #[.agg #[.int .i64 g.num,va,vl,vo,.int .i64 g.nid,.int .i64 g.fees,.int .u64 (g.link:Int),.int .i64 src],opV x.o x.v] w (NwW g va vl vo ({g with lines:=(lmt g.lines src x.o.ast x.o.amt).1},(lmt g.lines src x.o.ast x.o.amt).2) w):=by
 have HOKV:Hid ((lmt g.lines src x.o.ast x.o.amt).2=0→iU {g with lines:=(lmt g.lines src x.o.ast x.o.amt).1}):=fun h0=>gT (Bm hk ha h0) h.ok.2.2.2.2.2.2;have HLN:Hid (g.lines.length≤60):=(bO.1 (bD.1 hk).1).2.1;clear hk ha;obtain⟨A1,c1,rfl, -, -, -⟩:=aK h.1;obtain⟨A2,c2,rfl, -, -, -⟩:=aR h.2.1;obtain⟨A3,c3,rfl, -, -, -⟩:=aZ h.2.2.1;have HG:=sH h;have HP:=sH hp;clear h hp;unfold opV opL OpX.v;go_enter Tryz.func79,Tryz.ntmps79;go_upto_region 1 with(fail)
 generalize hW:((w.alloc _).alloc _).alloc _=w1;obtain⟨FA,hwk,hop,hrb⟩:Fr none w w1∧WkB w1 w.heap.size g (.slice A1 g.accs.length c1) (.slice A2 g.lines.length c2) (.slice A3 g.offers.length c3) src∧OpB w1 (w.heap.size+1) x.o x.v∧LgB w1 (w.heap.size+2) lg0 (.slice none 0 0) (.slice none 0 0) (.slice none 0 0):=by rw[←hW];exact eR w _ _ _
 clear hW;obtain⟨k0,k1,k2,k3,k4,k5,k6,k7⟩:=hwk.cells;obtain⟨o0,o1,o2,o3,o4,o5,o6,o7,o8,o9,o10,o11⟩:=hop.cells;go_wp2_with fail;refine(Bx g.lines _ src x.o.ast x.o.amt w1 (HG.out.fr FA).2.1 HLN.out).mono ?_;rintro e w2 ⟨v2,rfl,S2,F2⟩;have HB1:Hid (w.heap.size+2<w1.heap.size):=aC hrb;clear k0 k1 k2 k3 k4 k5 k6 k7 o0 o1 o2 o3 o4 o5 o6 o7 o8 o9 o10 o11;generalize lmt g.lines src x.o.ast x.o.amt=V at*
 have hs2:=S2;obtain⟨Ar,nr,cr,rfl, -, -, -, -⟩:=hs2;have HS:=sH S2;clear S2;have FA:=FA.pure F2;have hwk:=hwk.fr F2;have hop:=hop.fr F2;have hrb:=hrb.fr F2;clear F2;have kw:=aC hwk;have zw:=aB hwk 2;obtain⟨k0,k1,k2,k3,k4,k5,k6,k7⟩:=hwk.cells;obtain⟨o0,o1,o2,o3,o4,o5,o6,o7,o8,o9,o10,o11⟩:=hop.cells;have F4:=Fr.set1 w2 ⟨w.heap.size,2,none⟩ (.slice Ar nr cr);have hwk4:=hwk.set2 (.slice Ar nr cr);go_upto_region 3 with(fail)
 clear k0 k1 k2 k3 k4 k5 k6 k7 o0 o1 o2 o3 o4 o5 o6 o7 o8 o9 o10 o11;clear kw zw;generalize World.setCell w2 _ _=w9 at*
 have F4:Fr (some w.heap.size) w2 w9:=F4;have hrb:=hrb.fr F4;have HS:=sH (HS.out.keep (kO F4 (fun y e=>by injection e with e;have:=HB1.out;omega)));have FA:=FA.own F4 (fun y e=>by injection e with e;omega);clear F4 hwk hop;have hwk:=hwk4;clear hwk4;obtain⟨k0,k1,k2,k3,k4,k5,k6,k7⟩:=hwk.cells;obtain⟨m0,m1,m2,m3,m4,m5,m6,y0,y1,y2,y3,y4,y5,y6,ml⟩:=LgB.zc hrb;go_wp2;refine bodyPost_ret (v:=.tuple #[.agg #[.int .i64 g.num,(.slice A1 g.accs.length c1),(.slice Ar nr cr),.slice A3 g.offers.length c3,.int .i64 g.nid,.int .i64 g.fees,.int .u64 (g.link:Int)],.int .i64 V.2]) (by simp[results,Tryz.results79,go_sem,m0,m1,m2,m3,m4,m5,m6]) rfl ?_;have F9:=(aH (g:={g with lines:=V.1}) (va:=(.slice A1 g.accs.length c1)) (vl:=(.slice Ar nr cr)) (vo:=.slice A3 g.offers.length c3) hrb).1;exact⟨_,_,_,Ar,nr,cr,_,_,_,rfl,fun h0 q hq hqw=>⟨(hq.1.fr (FA.own F9).mono),SlD.nn (HS.out.keep (kO F9 (fun y e=>by injection e with e;have:=HB1.out;omega))) (HOKV.out h0).2.1 (fun k hk=>by have:=hqw k hk;have:=HB1.out;omega),(hq.2.2.1.fr (FA.own F9).mono),HG.out.2.2.2⟩,FA.own F9⟩
end Go.Proofs.YthaggndnfamhjaaGreatDoor
