/- Texts, joined. -/
import Derived.Test.YthaggndnfamhjaaGreatDoorProg
import Derived.Test.YthaggndnfamhjaaGreatDoorJK18
import Derived.Test.YthaggndnfamhjaaGreatDoorJK20
import Derived.Test.YthaggndnfamhjaaGreatDoorJK15
import Derived.Test.YthaggndnfamhjaaGreatDoorJK21
import Derived.Test.YthaggndnfamhjaaGreatDoorJK3
import Derived.Test.YthaggndnfamhjaaGreatDoorJB
import Derived.Test.YthaggndnfamhjaaGreatDoorJA

set_option linter.unusedSimpArgs false
set_option linter.unusedVariables false
set_option maxRecDepth 100000
set_option maxHeartbeats 16000000
namespace Go.Proofs.YthaggndnfamhjaaGreatDoor
open Go.RowKit
structure Ga (accs:List aQ) (xn xf:Int) (kl:Nat) (G:Lgr):Prop where
 ok:aH G=0
 acc:G.accs=accs
 num:G.num=xn
 fees:G.fees=xf
 link:G.link=kl
structure Hb (G:Lgr):Prop where
 ok:aH G=0
 ga:GA G.accs
 len:1≤G.accs.length∧G.accs.length≤5
 num:0≤G.num∧G.num≤4
 fees:0≤G.fees∧G.fees≤49
 link:G.link<1000
def Ip(w:World)(g:Nat)(e:Ending)(w':World):Prop:=∃(va vl vo:Value) (G:Lgr),e= .returned (bxv G va vl vo)∧LgX w.heap.size w' G va vl vo∧Hb G∧bP 69 w' g∧Fr (some g) w w'
theorem LgX.mono{B B':Nat}{w:World}{G:Lgr}{va vl vo:Value}(h:LgX B w G va vl vo)(hb:B'≤B):LgX B' w G va vl vo:=
 {h with a:=h.a.keep (dH hb),l:=h.l.keep (dH hb),o:=h.o.keep (dH hb)}
theorem Hc:cH Tryz.prog 25 59 3 24:=cH.mk_ (z:=.agg #[.int .i64 0,.int .i64 0,.int .i64 0]) (by kernel_rfl) (by kernel_rfl) rfl (by omega)
theorem Hd:cH Tryz.prog 26 74 5 48:=cH.mk_ (z:=.agg #[.int .i64 0,.string ⟨#[]⟩,.int .i64 0,.int .i64 0,.int .i64 0]) (by kernel_rfl) (by kernel_rfl) rfl (by omega)
theorem pJ{w:World}{b n:Nat}{cs:List Value}{T:TypeId}(h:w.heap[b]?=some (.cells cs.toArray T (0,0)))(hl:cs.length=n):SlD w (fun _=>True) n (.slice (some ⟨b,0,none⟩) 1 1) cs:=
 ⟨_,1,1,rfl,by rw[hl,Nat.one_mul],Nat.le_refl _,by unfold maxLen;omega,fun _=>⟨b,0,rfl,trivial,fun j u hu=>by
  rw[Nat.zero_add,aA h];simpa using hu⟩⟩
theorem DX{p:Prop}(h:p:=by
 go_wp2_with fail;go_roundw
 case rel=>(first|exact⟨_+1,lines,A2,c2,by go_num,by omega,HGL.out.skip,hl10,F,hzz,S,b2,b3,hac,own⟩|((repeat apply Exists.intro);exact⟨⟨_+1,lines,A2,c2,by go_num,by omega,HGL.out.skip,hl10,F,hzz,S,b2,b3,hac,own⟩,rfl⟩))
 case measure=>simp[intOf]):p:=h
theorem xG(g:Nat)(w:World)(h:bP 69 w g):
  Calls Tryz.prog 8 #[.pointer (some ⟨g,0,none⟩)] w (Ip w g):=by
 have hgl:=h.lt;go_enter Tryz.func8,Tryz.ntmps8;go_upto_region 1 with(fail)
 generalize hW:w.alloc _=w1;have F1:Fr none w w1:=hW▸(Fr.refl none w).alloc _;have b2:w1.heap[w.heap.size]?=some (.cells #[.int .i64 0,.slice none 0 0,.slice none 0 0,.slice none 0 0,.int .i64 0,.int .i64 0,.int .u64 0] 30 (0,0)):=by rw[←hW];exact aD _ _
 clear hW;have hz1:=aC b2;have S1:=h.fr F1;clear h;go_wp2_with fail;refine(cN 5 g w1 (by omega) S1).mono ?_;rintro e w2 ⟨xn,rfl,xn1,xn2,S2,F2⟩;go_wp2_with fail;refine(cN 50 g w2 (by omega) S2).mono ?_;rintro e w3 ⟨xf,rfl,xf1,xf2,S3,F3⟩;go_wp2_with fail;refine(cN 1000 g w3 (by omega) S3).mono ?_;rintro e w4 ⟨xl,rfl,xl1,xl2,S4,F4⟩;obtain⟨kl,rfl⟩:=Int.eq_ofNat_of_zero_le xl1;have hwl:IntKind.u64.wrap (kl:Int)=(kl:Int):=by rw[IntKind.wrap_u64];omega
 go_upto_region 2 with(fail)
 generalize hW:w4.alloc _=w5;have F5:Fr none w4 w5:=hW▸(Fr.refl none w4).alloc _;have b3:w5.heap[w4.heap.size]?=some (.cells #[.int .i64 xn,.slice none 0 0,.slice none 0 0,.slice none 0 0,.int .i64 1,.int .i64 xf,.int .u64 (kl:Int)] 30 (0,0)):=by rw[←hW];exact aD _ _
 clear hW hwl;have F15:Fr (some g) w1 w5:=(F2.same (F3.same F4)).pure F5;have F05:Fr (some g) w w5:=F1.mono.same F15;have b2:=aF b2 F15 (by simp;omega);have S5:=S4.fr F5;have hz4:w.heap.size<w4.heap.size:=by have:=(F2.same (F3.same F4)).size;omega
 have hz5:=aC b3;clear F1 F2 F3 F4 F5 F15 S1 S2 S3 S4;go_wp2_with fail;refine(cA 1 5 g w5 (by omega) (by omega) (by omega) (by omega) S5).mono ?_;rintro e w6 ⟨n,rfl,n1,n2,S6,F6⟩;have n2:n≤5:=by omega
 have b2:=aF b2 F6 (by simp;omega);have b3:=aF b3 F6 (by simp;omega);have F06:=F05.same F6;have hz6:=F6.size;have HX:Hid ((0≤xn∧xn≤4)∧(0≤xf∧xf≤49)∧kl<1000):=⟨by omega,by omega,by omega⟩;clear F05 F6 S5 xn1 xn2 xf1 xf2 xl1 xl2;obtain⟨bx,hbx⟩:∃bx,bx=w4.heap.size:=⟨_,rfl⟩;rw[←hbx] at b3 hz4 hz5;go_wp2_with fail;rw[←hbx];clear hbx;go_loopw [5] (fun s5 wr=>∃(k:Nat) (accs:List aQ) (A:Option Addr) (c:Nat),s5= .int .i64 ((k:Int)+1)∧(k:Int)≤n∧accs.length=k∧GA accs∧Fr (some g) w wr∧bP 69 wr g∧bx<wr.heap.size∧wr.heap[w.heap.size]?=some (.cells #[.int .i64 0,.slice none 0 0,.slice none 0 0,.slice none 0 0,.int .i64 0,.int .i64 0,.int .u64 0] 30 (0,0))∧
  wr.heap[bx]?=some (.cells #[.int .i64 xn,.slice A k c,.slice none 0 0,.slice none 0 0,.int .i64 1,.int .i64 xf,.int .u64 (kl:Int)] 30 (0,0))∧wr.ownsRow (bx+1) 59 3 (.slice A k c) k (flR aP accs)) (fun s5 _=>(n+1 - intOf s5).toNat)
 case atStart=>exact⟨0,[],none,0,by simp,by omega,rfl,fun k hk=>by simp at hk,F06,S6,by omega,b2,b3,World.ownsRow_nil _ _ _ _⟩
 case round=>
  clear b2 b3 F06 S6;obtain⟨k,accs,A,c,rfl,hk,hkl,HGA,F,S,hz,b2,b3,own⟩:=hrel;obtain⟨wz,hwz⟩:∃wz:World,wz=wr:=⟨_,rfl⟩;subst hwz;by_cases hlt:(k:Int)+1≤n
  ·go_upto_region 6 with(fail)
   have hk5:k<5:=by omega
   have HS:Hid (∀W,bP 69 W g→Fr (some g) wz W→(W.cell? ⟨bx,1,none⟩=some (.slice A k c)∧bP 69 W g∧Fr (some g) w W)):=fun W hS hF=>⟨hF.keep (by rw[aA b3];rfl) (by simp;omega),hS,F.same hF⟩;refine fL (fun W=>W.cell? ⟨bx,1,none⟩=some (.slice A k c)∧bP 69 W g∧Fr (some g) w W) 11 (by kernel_rfl) (by simp) (by kernel_rfl) (by kernel_rfl) (by kernel_rfl) (HS.out _ (S.fr (Fr.refl _ _).drew) (Fr.refl _ _).drew) (fun hH0=>?_);simp only[List.take_succ_cons,List.take_zero];refine sT 0 ?_;try simp only[sI]
   refine sT 1 ?_;try simp only[sI]
   refine sT 2 ?_;try simp only[sI]
   refine sT 3 ?_;try simp only[sI]
   refine sT 6 ?_;try simp only[sI]
   have G0:Fr none wz wz.drew:=(Fr.refl _ _).drew;generalize wz.drew=wN at*
   have hzN:=G0.size;refine wpAnyH_ready (rs:=[4]) (by kernel_rfl) (by simp) ?_;refine AllReadyH.cons rfl (fun K hK=>?_) AllReadyH.nil;have G1:=G0.alloc (.cells #[.int .i64 0,.int .i64 5,.int .i64 100,.int .i64 1000,.int .i64 1000] 3);have hlit:SlI (wN.alloc (.cells #[.int .i64 0,.int .i64 5,.int .i64 100,.int .i64 1000,.int .i64 1000] 3)) (some g) (.slice (some ⟨wN.heap.size,0,none⟩) 5 5) [0,5,100,1000,1000]:=
    ⟨SlD.lit_dm #[.int .i64 0,.int .i64 5,.int .i64 100,.int .i64 1000,.int .i64 1000] 3 5 1 rfl (by unfold maxLen;omega) (by simp;omega) (Fr.refl _ _),by intro x hx;simp at hx;constructor<;>omega⟩
   have S1:=S.fr G1;simp only[sJ];go_simp;refine hK.out _ _ (HS.out _ S1 G1.mono) (fun hH9=>?_);clear hK K hH0;have hH0:=hH9;clear hH9;try simp only[sI]
   refine wpAnyH_ready (rs:=[5]) (by kernel_rfl) (by simp) ?_;refine AllReadyH.cons rfl (fun K hK=>?_) AllReadyH.nil;simp only[sJ];go_simp;go_at_call 24;refine(cO _ [0,5,100,1000,1000] g _ hlit (by simp) (by simp) S1).mono ?_;rintro e wp ⟨x,rfl,hx,Sp,Fp⟩;have hx0:0≤x∧x≤1000:=by simp at hx;omega
   have Gp:Fr (some g) wz wp:=G1.mono.same Fp;clear hx hlit S1;refine hK.out _ _ (HS.out _ Sp Gp) (fun hH9=>?_);clear hK K hH0;have hH0:=hH9;clear hH9;try simp only[sI]
   refine wpAnyH_ready (rs:=[7]) (by kernel_rfl) (by simp) ?_;refine AllReadyH.cons rfl (fun K hK=>?_) AllReadyH.nil;simp only[sJ];go_simp;go_at_call 22;refine(cN 3 g _ (by omega) Sp).mono ?_;rintro e wq ⟨q,rfl,q1,q2,Sq,Fq⟩;have Gq:Fr (some g) wz wq:=Gp.same Fq;have hq0:0≤q∧q≤2:=by omega
   clear q1 q2 Gp Fp Fq Sp G1;refine hK.out _ _ (HS.out _ Sq Gq) (fun hH9=>?_);clear hK K hH0;have hH0:=hH9;clear hH9;try simp only[sI]
   refine sT 8 ?_;try simp only[sI]
   refine wpAnyH_ready (rs:=[9]) (by kernel_rfl) (by simp) ?_;refine AllReadyH.cons rfl (fun K hK=>?_) AllReadyH.nil;have G2:=Gq.alloc (.cells #[.int .i64 ((k:Int)+1),.int .i64 x,.int .i64 q] 59);have S2:=Sq.fr ((Fr.refl none wq).alloc (.cells #[.int .i64 ((k:Int)+1),.int .i64 x,.int .i64 q] 59));have hsrc:=pJ (n:=3) (aD wq (.cells #[.int .i64 ((k:Int)+1),.int .i64 x,.int .i64 q] 59)) rfl;have own2:=aR own G2 (by intro z hz;simp at hz;omega);simp only[sJ];go_simp;refine hK.out _ _ (HS.out _ S2 G2) (fun hH9=>?_);clear hK K hH0;have hH0:=hH9;clear hH9;try simp only[sI]
   generalize wq.alloc _=wr at*
   refine wpAnyH_ready (rs:=[10]) (by kernel_rfl) (by simp) ?_;refine AllReadyH.cons rfl (fun K hK=>?_) AllReadyH.nil;simp only[sJ];refine fN Hc (by rfl) _ _ rfl (bx+1) A k c (flR aP accs) rfl own2 (some ⟨wq.heap.size,0,none⟩) 1 1 [.int .i64 ((k:Int)+1),.int .i64 x,.int .i64 q] rfl hsrc (by simp[Value.oneCell']) (by omega) (by unfold maxLen;omega) (by have:=G2.size;omega) ?_;intro A7 c7 w7 own7 F7 _;have hbO:=bH own2;have b3:=aF (aF b3 G2 (by simp;omega)) F7 (fun e=>by have:=hbO bx e;omega);have b2:=aF (aF b2 G2 (by simp;omega)) F7 (fun e=>by have:=hbO _ e;omega);have S7:=S2.frs F7 (fun z e=>by have:=hbO z e;omega);have FF:=(F.same G2).own F7 (fun z e=>by have:=hbO z e;omega);have c1:w7.cell? ⟨bx,1,none⟩=some (.slice A k c):=by rw[aA b3];rfl
   refine hK.out _ _ ⟨c1,S7,FF⟩ (fun hH9=>?_);clear hK K hH0;have hH0:=hH9;clear hH9;try simp only[sI]
   refine wpAnyH_done (by kernel_rfl) ?_ _;simp only[lE,List.drop_succ_cons,List.drop_zero];have z1:=aB b3 1;have zl:=aC b3;clear hH0;go_wp2_with fail;have F8:=Fr.set1 w7 ⟨bx,1,none⟩ (.slice A7 (k+1) c7);go_roundw
   case rel=>
    have b8:=aI b3 1 (.slice A7 (k+1) c7);simp only[List.setIfInBounds_toArray,List.set_cons_zero,List.set_cons_succ] at b8;exact⟨k+1,accs++[⟨(k:Int)+1,x,q⟩],A7,c7,by go_num,by omega,by simp[hkl],HGA.snoc (by rw[hkl]) hx0 hq0,FF.own F8 (by simp;omega),S7.frs F8 (by simp;omega),by have:=F8.size;omega,aF b2 F8 (by simp;omega),b8,by rw[cV];exact aR own7 F8 (by simp)⟩
   case measure=>simp[intOf];omega
  have hkn:(k:Int)=n:=by omega
  have hacc:SlD wz (fun b=>bx+1≤b∧b<wz.heap.size) 3 (.slice A k c) (flR aP accs):=SlD.own_dn own;have HAcc:=sH hacc;have HGA':=sH HGA;have hk5:k≤5:=by omega
  have HKN:=sH hkn;clear own hacc HGA hkn;go_wp2_with fail;clear hlt;go_loopw [6] (fun s6 wr=>∃(i:Nat) (lines:List Ln) (A2:Option Addr) (c2:Nat),s6= .int .i64 ((i:Int)+1)∧i≤k∧Hid (GL accs i 0 lines)∧lines.length≤12∧Fr (some g) w wr∧wz.heap.size≤wr.heap.size∧bP 69 wr g∧wr.heap[w.heap.size]?=some (.cells #[.int .i64 0,.slice none 0 0,.slice none 0 0,.slice none 0 0,.int .i64 0,.int .i64 0,.int .u64 0] 30 (0,0))∧wr.heap[bx]?=some (.cells #[.int .i64 xn,.slice A k c,.slice A2 lines.length c2,.slice none 0 0,.int .i64 1,.int .i64 xf,.int .u64 (kl:Int)] 30 (0,0))∧SlD wr (fun b=>bx+1≤b∧b<wz.heap.size) 3 (.slice A k c) (flR aP accs)∧wr.ownsRow wz.heap.size 74 5 (.slice A2 lines.length c2) lines.length (flR lnR lines)) (fun s6 _=>(n+1 - intOf s6).toNat)
  case atStart=>exact⟨0,[],none,0,by simp,by omega,GL.zero _,by simp,F,Nat.le_refl _,S,b2,b3,HAcc.out,World.ownsRow_nil _ _ _ _⟩
  case round=>
   clear b2 b3 F S HAcc;obtain⟨i,lines,A2,c2,rfl,hik,HGL,hl10,F,hzz,S,b2,b3,hac,own⟩:=hrel;obtain⟨wy,hwy⟩:∃wy:World,wy=wr:=⟨_,rfl⟩;subst hwy;by_cases hlt2:i<k
   ·have hin:(i:Int)+1≤n:=by have:=HKN.out;omega
    go_wp2_with fail;refine(nY wy).mono ?_;rintro e wa ⟨rfl,Fa⟩;go_wp2_with fail;refine(lP wa).mono ?_;rintro e wb ⟨rfl,Fb⟩;have Fab:=Fa.pure Fb;have hzb:=Fab.size;have F:=F.pure Fab;have S:=S.fr Fab;have b2:=aF b2 Fab (by simp);have b3:=aF b3 Fab (by simp);have own:=aR own Fab (by simp);have hac:SlD wb (fun b=>bx+1≤b∧b<wz.heap.size) 3 (.slice A k c) (flR aP accs):=hac.keep (fun b hb=>⟨hb,Fab.block b (by omega) (by simp)⟩);have hzb2:wz.heap.size≤wb.heap.size:=by omega
    clear Fa Fb Fab hzb hzz;go_wp2_with fail;have HGL0:=HGL;go_loopw [49] (fun s49 wr=>∃(j:Nat) (lines:List Ln) (A2:Option Addr) (c2:Nat),s49= .int .i64 (j:Int)∧j≤2∧Hid (GL accs i j lines)∧lines.length≤12∧Fr (some g) w wr∧wz.heap.size≤wr.heap.size∧bP 69 wr g∧wr.heap[w.heap.size]?=some (.cells #[.int .i64 0,.slice none 0 0,.slice none 0 0,.slice none 0 0,.int .i64 0,.int .i64 0,.int .u64 0] 30 (0,0))∧wr.heap[bx]?=some (.cells #[.int .i64 xn,.slice A k c,.slice A2 lines.length c2,.slice none 0 0,.int .i64 1,.int .i64 xf,.int .u64 (kl:Int)] 30 (0,0))∧SlD wr (fun b=>bx+1≤b∧b<wz.heap.size) 3 (.slice A k c) (flR aP accs)∧wr.ownsRow wz.heap.size 74 5 (.slice A2 lines.length c2) lines.length (flR lnR lines)) (fun s49 _=>(2 - intOf s49).toNat)
    case atStart=>exact⟨0,lines,A2,c2,by simp,by omega,HGL0,hl10,F,hzb2,S,b2,b3,hac,own⟩
    case round=>
     clear b2 b3 F S hac own HGL HGL0 hl10 hzb2;obtain⟨j,lines,A2,c2,rfl,hj2,HGL,hl10,F,hzz,S,b2,b3,hac,own⟩:=hrel;obtain⟨wx,hwx⟩:∃wx:World,wx=wr:=⟨_,rfl⟩;subst hwx;by_cases hj:j<2
     ·rcases(by omega:j=0∨j=1) with rfl|rfl
      ·skip
       have ix:∀w,(Instr.index 65 (.agg #[.string (bL eur.code),.int .i64 eur.iss,.string (bL usd.code),.int .i64 usd.iss]) (.int .i64 0)).run Tryz.prog w= .ok (.agg #[.string (bL (eur).code),.int .i64 (eur).iss]) w:=fun _=>by kernel_rfl
       go_upto_region 13 with(fail)
       clear ix;have holt:Hid (∀z,(Value.slice A2 lines.length c2).ownBlock=some z→z<wx.heap.size):=fun z e=>(own.lt z e).2;generalize hW:wx.alloc _=wd;have Fd:Fr none wx wd:=hW▸(Fr.refl none wx).alloc _;have b8:wd.heap[wx.heap.size]?=some (.cells #[.string (bL (eur).code),.int .i64 (eur).iss] 46 (0,0)):=by rw[←hW];exact aD _ _
       clear hW;have b2:=aF b2 Fd (by simp);have b3:=aF b3 Fd (by simp);have F:=F.pure Fd;have S:=S.fr Fd;have own:=aR own Fd (by simp);have hac:SlD wd (fun b=>bx+1≤b∧b<wz.heap.size) 3 (.slice A k c) (flR aP accs):=hac.keep (fun b hb=>⟨hb,Fd.block b (by omega) (by simp)⟩);have hzx:=hzz;have hzz:wz.heap.size≤wd.heap.size:=by have:=Fd.size;omega
       have hzb:bx<wz.heap.size:=hz;clear Fd;have r0:wd.cell? ⟨wx.heap.size,0,none⟩=some (.string (bL (eur).code)):=by rw[aA b8];rfl
       have r1:wd.cell? ⟨wx.heap.size,1,none⟩=some (.int .i64 (eur).iss):=by rw[aA b8];rfl
       have l8:=aC b8;by_cases ha:(eur).iss=(i:Int)+1
       ·have e1:((eur).iss == (i:Int)+1)=true:=by rw[beq_iff_eq];exact ha
        clear ha;exact DX
       have e1:((eur).iss == (i:Int)+1)=false:=by rw[beq_eq_false_iff_ne];exact ha
       have Ha:=sH ha;clear ha;go_wp2_with fail;refine(cN 4 g wd (by omega) S).mono ?_;rintro e we ⟨x,rfl,x1,x2,Se,Fe⟩;have b2:=aF b2 Fe (by simp;omega);have b3:=aF b3 Fe (by simp;omega);have b8:=aF b8 Fe (by simp;omega);have F:=F.same Fe;have own:=aR own Fe (by intro z hz;simp at hz;omega);have hac:SlD we (fun b=>bx+1≤b∧b<wz.heap.size) 3 (.slice A k c) (flR aP accs):=hac.keep (fun b hb=>⟨hb,Fe.block b (by omega) (by simp;omega)⟩);have hzz:wz.heap.size≤we.heap.size:=by have:=Fe.size;omega
       have S:=Se;clear Fe Se r0 r1 l8 e1;by_cases hx:x=0
       ·subst hx;exact DX
       have e2:(x == 0)=false:=by rw[beq_eq_false_iff_ne];exact hx
       clear hx x1 x2;have G1:=(Fr.refl none we).alloc (.cells #[.int .i64 0,.int .i64 50,.int .i64 500,.int .i64 1000000000000] 3);have hlit:SlI (we.alloc (.cells #[.int .i64 0,.int .i64 50,.int .i64 500,.int .i64 1000000000000] 3)) (some g) (.slice (some ⟨we.heap.size,0,none⟩) 4 4) [0,50,500,1000000000000]:=
        ⟨SlD.lit_dm #[.int .i64 0,.int .i64 50,.int .i64 500,.int .i64 1000000000000] 3 4 1 rfl (by unfold maxLen;omega) (by simp;omega) (Fr.refl _ _),by intro x hx;simp at hx;constructor<;>omega⟩
       go_wp2_with fail;refine(cO _ [0,50,500,1000000000000] g _ hlit (by simp) (by simp) (S.fr G1)).mono ?_;rintro e wf ⟨lim,rfl,hlm,Sf,Ff⟩;have hlim:0≤lim∧lim≤1000000000000:=by simp at hlm;omega
       have Gf:Fr (some g) we wf:=G1.mono.same Ff;have b2:=aF b2 Gf (by simp;omega);have b3:=aF b3 Gf (by simp;omega);have b8:=aF b8 Gf (by simp;omega);have F:=F.same Gf;have own:=aR own Gf (by intro z hz;simp at hz;omega);have hac:SlD wf (fun b=>bx+1≤b∧b<wz.heap.size) 3 (.slice A k c) (flR aP accs):=hac.keep (fun b hb=>⟨hb,Gf.block b (by omega) (by simp;omega)⟩);have hzz:wz.heap.size≤wf.heap.size:=by have:=Gf.size;omega
       have S:=Sf;clear Gf G1 hlit hlm Ff Sf e2;go_upto_region 15 with(fail)
       have HS:Hid (∀W,bP 69 W g→Fr (some g) wf W→(W.cell? ⟨bx,2,none⟩=some (.slice A2 lines.length c2)∧W.cell? ⟨wx.heap.size,0,none⟩=some (.string (bL (eur).code))∧W.cell? ⟨wx.heap.size,1,none⟩=some (.int .i64 (eur).iss)∧bP 69 W g∧Fr (some g) w W)):=fun W hS hF=>⟨hF.keep (by rw[aA b3];rfl) (by simp;omega),hF.keep (by rw[aA b8];rfl) (by simp;omega),hF.keep (by rw[aA b8];rfl) (by simp;omega),hS,F.same hF⟩;refine fL (fun W=>W.cell? ⟨bx,2,none⟩=some (.slice A2 lines.length c2)∧W.cell? ⟨wx.heap.size,0,none⟩=some (.string (bL (eur).code))∧W.cell? ⟨wx.heap.size,1,none⟩=some (.int .i64 (eur).iss)∧bP 69 W g∧Fr (some g) w W) 13 (by kernel_rfl) (by simp) (by kernel_rfl) (by kernel_rfl) (by kernel_rfl) (HS.out _ (S.fr (Fr.refl _ _).drew) (Fr.refl _ _).drew) (fun hH0=>?_);simp only[List.take_succ_cons,List.take_zero];obtain⟨m,hm⟩:∃m,(if 400<lim then(400:Int) else lim)=m:=⟨_,rfl⟩;have hmb:0≤m∧m≤400∧m≤lim:=by rw[←hm];split<;>omega
       have hwr:IntKind.i64.wrap (m+1)=m+1:=by rw[IntKind.wrap_i64];omega
       refine sT 0 ?_;try simp only[sI]
       refine sT 1 ?_;try simp only[sI]
       refine sT 2 ?_;try simp only[sI]
       refine sT 3 ?_;try simp only[sI]
       refine sT 4 ?_;try simp only[sI]
       refine sT 5 ?_;try simp only[sI]
       refine sT 6 ?_;try simp only[sI]
       refine sT 7 ?_;try simp only[sI]
       refine sT 9 ?_;try simp only[sI]
       clear hwr hm;have G0:Fr none wf wf.drew:=(Fr.refl _ _).drew;generalize wf.drew=wN at*
       refine wpAnyH_ready (rs:=[8]) (by kernel_rfl) (by simp) ?_;refine AllReadyH.cons rfl (fun K hK=>?_) AllReadyH.nil;simp only[sJ];go_simp;go_at_call 22;refine(cN (m+1) g _ (by omega) (S.fr G0)).mono ?_;rintro e wq ⟨q,rfl,q1,q2,Sq,Fq⟩;have Gq:Fr (some g) wf wq:=G0.mono.same Fq;have hq0:0≤q∧q≤lim:=by omega
       clear q1 q2 Fq;refine hK.out _ _ (HS.out _ Sq Gq) (fun hH9=>?_);clear hK K hH0;have hH0:=hH9;clear hH9;try simp only[sI]
       refine sT 10 ?_;try simp only[sI]
       refine wpAnyH_ready (rs:=[11]) (by kernel_rfl) (by simp) ?_;refine AllReadyH.cons rfl (fun K hK=>?_) AllReadyH.nil;have G2:=Gq.alloc (.cells #[.int .i64 ((i:Int)+1),.string (bL (eur).code),.int .i64 (eur).iss,.int .i64 q,.int .i64 lim] 74);have S2:=Sq.fr ((Fr.refl none wq).alloc (.cells #[.int .i64 ((i:Int)+1),.string (bL (eur).code),.int .i64 (eur).iss,.int .i64 q,.int .i64 lim] 74));have hsrc:=pJ (n:=5) (aD wq (.cells #[.int .i64 ((i:Int)+1),.string (bL (eur).code),.int .i64 (eur).iss,.int .i64 q,.int .i64 lim] 74)) rfl;have own2:=aR own G2 (by intro z hz;simp at hz;omega);simp only[sJ];go_simp;refine hK.out _ _ (HS.out _ S2 G2) (fun hH9=>?_);clear hK K hH0;have hH0:=hH9;clear hH9;try simp only[sI]
       generalize wq.alloc _=wr at*
       refine wpAnyH_ready (rs:=[12]) (by kernel_rfl) (by simp) ?_;refine AllReadyH.cons rfl (fun K hK=>?_) AllReadyH.nil;simp only[sJ];refine fN Hd (by rfl) _ _ rfl wz.heap.size A2 lines.length c2 (flR lnR lines) rfl own2 (some ⟨wq.heap.size,0,none⟩) 1 1 [.int .i64 ((i:Int)+1),.string (bL (eur).code),.int .i64 (eur).iss,.int .i64 q,.int .i64 lim] rfl hsrc (by simp[Value.oneCell']) (by omega) (by unfold maxLen;omega) (by have:=G2.size;omega) ?_;intro A7 c7 w7 own7 F7 _;have hbO:=bH own2;have b3:=aF (aF b3 G2 (by simp;omega)) F7 (fun e=>by have:=hbO bx e;omega);have b2:=aF (aF b2 G2 (by simp;omega)) F7 (fun e=>by have:=hbO _ e;omega);have b8:=aF (aF b8 G2 (by simp;omega)) F7 (fun e=>by have:=holt.out _ e;omega);have S7:=S2.frs F7 (fun z e=>by have:=hbO z e;omega);have FF:=(F.same G2).own F7 (fun z e=>by have:=hbO z e;omega);have hac7:SlD w7 (fun b=>bx+1≤b∧b<wz.heap.size) 3 (.slice A k c) (flR aP accs):=(hac.keep (fun b hb=>⟨hb,G2.block b (by omega) (by simp;omega)⟩)).keep (fun b hb=>⟨hb,F7.block b (by have:=G2.size;omega) (fun e=>by have:=hbO b e.symm;omega)⟩);have c1:w7.cell? ⟨bx,2,none⟩=some (.slice A2 lines.length c2):=by rw[aA b3];rfl
       have c2':w7.cell? ⟨wx.heap.size,0,none⟩=some (.string (bL (eur).code)):=by rw[aA b8];rfl
       have c3':w7.cell? ⟨wx.heap.size,1,none⟩=some (.int .i64 (eur).iss):=by rw[aA b8];rfl
       refine hK.out _ _ ⟨c1,c2',c3',S7,FF⟩ (fun hH9=>?_);clear hK K hH0;have hH0:=hH9;clear hH9;try simp only[sI]
       refine wpAnyH_done (by kernel_rfl) ?_ _;simp only[lE,List.drop_succ_cons,List.drop_zero];have z1:=aB b3 2;have zl:=aC b3;have hz7:wz.heap.size≤w7.heap.size:=by have:=G2.size;have:=F7.size;omega
       clear hH0 c2' c3' b8;go_wp2_with fail;have F8:=Fr.set1 w7 ⟨bx,2,none⟩ (.slice A7 (lines.length+1) c7);have b9:=aI b3 2 (.slice A7 (lines.length+1) c7);simp only[List.setIfInBounds_toArray,List.set_cons_zero,List.set_cons_succ] at b9;have HGL9:Hid (GL accs i (0+1) (lines++[Ln.mk ((i:Int)+1) eur q lim])):=HGL.out.add (.inl ⟨rfl,rfl⟩) Ha.out HGA'.out (by omega) hq0 hlim.2;have hl9:(lines++[Ln.mk ((i:Int)+1) eur q lim]).length=lines.length+1:=by simp
       have own9:(w7.setCell ⟨bx,2,none⟩ (.slice A7 (lines.length+1) c7)).ownsRow wz.heap.size 74 5 (.slice A7 (lines++[Ln.mk ((i:Int)+1) eur q lim]).length c7) (lines++[Ln.mk ((i:Int)+1) eur q lim]).length (flR lnR (lines++[Ln.mk ((i:Int)+1) eur q lim])):=by rw[hl9,cV];exact aR own7 F8 (by intro z hz;simp at hz;omega)
       have hlen9:lines.length≤2*i+0:=HGL.out.len;go_roundw
       case rel=>(first|exact⟨0+1,lines++[Ln.mk ((i:Int)+1) eur q lim],A7,c7,by go_num,by omega,HGL9,by rw[hl9];omega,FF.own F8 (by simp;omega),by have:=F8.size;omega,S7.frs F8 (by simp;omega),aF b2 F8 (by simp;omega),by rw[hl9];exact b9,hac7.keep (fun b hb=>⟨hb,F8.block b (by omega) (by simp;omega)⟩),own9⟩|((repeat apply Exists.intro);refine⟨⟨0+1,lines++[Ln.mk ((i:Int)+1) eur q lim],A7,c7,?_,by omega,HGL9,by rw[hl9];omega,FF.own F8 (by simp;omega),by have:=F8.size;omega,S7.frs F8 (by simp;omega),aF b2 F8 (by simp;omega),by rw[hl9];exact b9,hac7.keep (fun b hb=>⟨hb,F8.block b (by omega) (by simp;omega)⟩),own9⟩,rfl⟩;go_num))
       case measure=>simp[intOf]
      skip
      have ix:∀w,(Instr.index 65 (.agg #[.string (bL eur.code),.int .i64 eur.iss,.string (bL usd.code),.int .i64 usd.iss]) (.int .i64 1)).run Tryz.prog w= .ok (.agg #[.string (bL (usd).code),.int .i64 (usd).iss]) w:=fun _=>by kernel_rfl
      go_upto_region 13 with(fail)
      clear ix;have holt:Hid (∀z,(Value.slice A2 lines.length c2).ownBlock=some z→z<wx.heap.size):=fun z e=>(own.lt z e).2;generalize hW:wx.alloc _=wd;have Fd:Fr none wx wd:=hW▸(Fr.refl none wx).alloc _;have b8:wd.heap[wx.heap.size]?=some (.cells #[.string (bL (usd).code),.int .i64 (usd).iss] 46 (0,0)):=by rw[←hW];exact aD _ _
      clear hW;have b2:=aF b2 Fd (by simp);have b3:=aF b3 Fd (by simp);have F:=F.pure Fd;have S:=S.fr Fd;have own:=aR own Fd (by simp);have hac:SlD wd (fun b=>bx+1≤b∧b<wz.heap.size) 3 (.slice A k c) (flR aP accs):=hac.keep (fun b hb=>⟨hb,Fd.block b (by omega) (by simp)⟩);have hzx:=hzz;have hzz:wz.heap.size≤wd.heap.size:=by have:=Fd.size;omega
      have hzb:bx<wz.heap.size:=hz;clear Fd;have r0:wd.cell? ⟨wx.heap.size,0,none⟩=some (.string (bL (usd).code)):=by rw[aA b8];rfl
      have r1:wd.cell? ⟨wx.heap.size,1,none⟩=some (.int .i64 (usd).iss):=by rw[aA b8];rfl
      have l8:=aC b8;by_cases ha:(usd).iss=(i:Int)+1
      ·have e1:((usd).iss == (i:Int)+1)=true:=by rw[beq_iff_eq];exact ha
       clear ha;exact DX
      have e1:((usd).iss == (i:Int)+1)=false:=by rw[beq_eq_false_iff_ne];exact ha
      have Ha:=sH ha;clear ha;go_wp2_with fail;refine(cN 4 g wd (by omega) S).mono ?_;rintro e we ⟨x,rfl,x1,x2,Se,Fe⟩;have b2:=aF b2 Fe (by simp;omega);have b3:=aF b3 Fe (by simp;omega);have b8:=aF b8 Fe (by simp;omega);have F:=F.same Fe;have own:=aR own Fe (by intro z hz;simp at hz;omega);have hac:SlD we (fun b=>bx+1≤b∧b<wz.heap.size) 3 (.slice A k c) (flR aP accs):=hac.keep (fun b hb=>⟨hb,Fe.block b (by omega) (by simp;omega)⟩);have hzz:wz.heap.size≤we.heap.size:=by have:=Fe.size;omega
      have S:=Se;clear Fe Se r0 r1 l8 e1;by_cases hx:x=0
      ·subst hx;exact DX
      have e2:(x == 0)=false:=by rw[beq_eq_false_iff_ne];exact hx
      clear hx x1 x2;have G1:=(Fr.refl none we).alloc (.cells #[.int .i64 0,.int .i64 50,.int .i64 500,.int .i64 1000000000000] 3);have hlit:SlI (we.alloc (.cells #[.int .i64 0,.int .i64 50,.int .i64 500,.int .i64 1000000000000] 3)) (some g) (.slice (some ⟨we.heap.size,0,none⟩) 4 4) [0,50,500,1000000000000]:=
       ⟨SlD.lit_dm #[.int .i64 0,.int .i64 50,.int .i64 500,.int .i64 1000000000000] 3 4 1 rfl (by unfold maxLen;omega) (by simp;omega) (Fr.refl _ _),by intro x hx;simp at hx;constructor<;>omega⟩
      go_wp2_with fail;refine(cO _ [0,50,500,1000000000000] g _ hlit (by simp) (by simp) (S.fr G1)).mono ?_;rintro e wf ⟨lim,rfl,hlm,Sf,Ff⟩;have hlim:0≤lim∧lim≤1000000000000:=by simp at hlm;omega
      have Gf:Fr (some g) we wf:=G1.mono.same Ff;have b2:=aF b2 Gf (by simp;omega);have b3:=aF b3 Gf (by simp;omega);have b8:=aF b8 Gf (by simp;omega);have F:=F.same Gf;have own:=aR own Gf (by intro z hz;simp at hz;omega);have hac:SlD wf (fun b=>bx+1≤b∧b<wz.heap.size) 3 (.slice A k c) (flR aP accs):=hac.keep (fun b hb=>⟨hb,Gf.block b (by omega) (by simp;omega)⟩);have hzz:wz.heap.size≤wf.heap.size:=by have:=Gf.size;omega
      have S:=Sf;clear Gf G1 hlit hlm Ff Sf e2;go_upto_region 15 with(fail)
      have HS:Hid (∀W,bP 69 W g→Fr (some g) wf W→(W.cell? ⟨bx,2,none⟩=some (.slice A2 lines.length c2)∧W.cell? ⟨wx.heap.size,0,none⟩=some (.string (bL (usd).code))∧W.cell? ⟨wx.heap.size,1,none⟩=some (.int .i64 (usd).iss)∧bP 69 W g∧Fr (some g) w W)):=fun W hS hF=>⟨hF.keep (by rw[aA b3];rfl) (by simp;omega),hF.keep (by rw[aA b8];rfl) (by simp;omega),hF.keep (by rw[aA b8];rfl) (by simp;omega),hS,F.same hF⟩;refine fL (fun W=>W.cell? ⟨bx,2,none⟩=some (.slice A2 lines.length c2)∧W.cell? ⟨wx.heap.size,0,none⟩=some (.string (bL (usd).code))∧W.cell? ⟨wx.heap.size,1,none⟩=some (.int .i64 (usd).iss)∧bP 69 W g∧Fr (some g) w W) 13 (by kernel_rfl) (by simp) (by kernel_rfl) (by kernel_rfl) (by kernel_rfl) (HS.out _ (S.fr (Fr.refl _ _).drew) (Fr.refl _ _).drew) (fun hH0=>?_);simp only[List.take_succ_cons,List.take_zero];obtain⟨m,hm⟩:∃m,(if 400<lim then(400:Int) else lim)=m:=⟨_,rfl⟩;have hmb:0≤m∧m≤400∧m≤lim:=by rw[←hm];split<;>omega
      have hwr:IntKind.i64.wrap (m+1)=m+1:=by rw[IntKind.wrap_i64];omega
      refine sT 0 ?_;try simp only[sI]
      refine sT 1 ?_;try simp only[sI]
      refine sT 2 ?_;try simp only[sI]
      refine sT 3 ?_;try simp only[sI]
      refine sT 4 ?_;try simp only[sI]
      refine sT 5 ?_;try simp only[sI]
      refine sT 6 ?_;try simp only[sI]
      refine sT 7 ?_;try simp only[sI]
      refine sT 9 ?_;try simp only[sI]
      clear hwr hm;have G0:Fr none wf wf.drew:=(Fr.refl _ _).drew;generalize wf.drew=wN at*
      refine wpAnyH_ready (rs:=[8]) (by kernel_rfl) (by simp) ?_;refine AllReadyH.cons rfl (fun K hK=>?_) AllReadyH.nil;simp only[sJ];go_simp;go_at_call 22;refine(cN (m+1) g _ (by omega) (S.fr G0)).mono ?_;rintro e wq ⟨q,rfl,q1,q2,Sq,Fq⟩;have Gq:Fr (some g) wf wq:=G0.mono.same Fq;have hq0:0≤q∧q≤lim:=by omega
      clear q1 q2 Fq;refine hK.out _ _ (HS.out _ Sq Gq) (fun hH9=>?_);clear hK K hH0;have hH0:=hH9;clear hH9;try simp only[sI]
      refine sT 10 ?_;try simp only[sI]
      refine wpAnyH_ready (rs:=[11]) (by kernel_rfl) (by simp) ?_;refine AllReadyH.cons rfl (fun K hK=>?_) AllReadyH.nil;have G2:=Gq.alloc (.cells #[.int .i64 ((i:Int)+1),.string (bL (usd).code),.int .i64 (usd).iss,.int .i64 q,.int .i64 lim] 74);have S2:=Sq.fr ((Fr.refl none wq).alloc (.cells #[.int .i64 ((i:Int)+1),.string (bL (usd).code),.int .i64 (usd).iss,.int .i64 q,.int .i64 lim] 74));have hsrc:=pJ (n:=5) (aD wq (.cells #[.int .i64 ((i:Int)+1),.string (bL (usd).code),.int .i64 (usd).iss,.int .i64 q,.int .i64 lim] 74)) rfl;have own2:=aR own G2 (by intro z hz;simp at hz;omega);simp only[sJ];go_simp;refine hK.out _ _ (HS.out _ S2 G2) (fun hH9=>?_);clear hK K hH0;have hH0:=hH9;clear hH9;try simp only[sI]
      generalize wq.alloc _=wr at*
      refine wpAnyH_ready (rs:=[12]) (by kernel_rfl) (by simp) ?_;refine AllReadyH.cons rfl (fun K hK=>?_) AllReadyH.nil;simp only[sJ];refine fN Hd (by rfl) _ _ rfl wz.heap.size A2 lines.length c2 (flR lnR lines) rfl own2 (some ⟨wq.heap.size,0,none⟩) 1 1 [.int .i64 ((i:Int)+1),.string (bL (usd).code),.int .i64 (usd).iss,.int .i64 q,.int .i64 lim] rfl hsrc (by simp[Value.oneCell']) (by omega) (by unfold maxLen;omega) (by have:=G2.size;omega) ?_;intro A7 c7 w7 own7 F7 _;have hbO:=bH own2;have b3:=aF (aF b3 G2 (by simp;omega)) F7 (fun e=>by have:=hbO bx e;omega);have b2:=aF (aF b2 G2 (by simp;omega)) F7 (fun e=>by have:=hbO _ e;omega);have b8:=aF (aF b8 G2 (by simp;omega)) F7 (fun e=>by have:=holt.out _ e;omega);have S7:=S2.frs F7 (fun z e=>by have:=hbO z e;omega);have FF:=(F.same G2).own F7 (fun z e=>by have:=hbO z e;omega);have hac7:SlD w7 (fun b=>bx+1≤b∧b<wz.heap.size) 3 (.slice A k c) (flR aP accs):=(hac.keep (fun b hb=>⟨hb,G2.block b (by omega) (by simp;omega)⟩)).keep (fun b hb=>⟨hb,F7.block b (by have:=G2.size;omega) (fun e=>by have:=hbO b e.symm;omega)⟩);have c1:w7.cell? ⟨bx,2,none⟩=some (.slice A2 lines.length c2):=by rw[aA b3];rfl
      have c2':w7.cell? ⟨wx.heap.size,0,none⟩=some (.string (bL (usd).code)):=by rw[aA b8];rfl
      have c3':w7.cell? ⟨wx.heap.size,1,none⟩=some (.int .i64 (usd).iss):=by rw[aA b8];rfl
      refine hK.out _ _ ⟨c1,c2',c3',S7,FF⟩ (fun hH9=>?_);clear hK K hH0;have hH0:=hH9;clear hH9;try simp only[sI]
      refine wpAnyH_done (by kernel_rfl) ?_ _;simp only[lE,List.drop_succ_cons,List.drop_zero];have z1:=aB b3 2;have zl:=aC b3;have hz7:wz.heap.size≤w7.heap.size:=by have:=G2.size;have:=F7.size;omega
      clear hH0 c2' c3' b8;go_wp2_with fail;have F8:=Fr.set1 w7 ⟨bx,2,none⟩ (.slice A7 (lines.length+1) c7);have b9:=aI b3 2 (.slice A7 (lines.length+1) c7);simp only[List.setIfInBounds_toArray,List.set_cons_zero,List.set_cons_succ] at b9;have HGL9:Hid (GL accs i (1+1) (lines++[Ln.mk ((i:Int)+1) usd q lim])):=HGL.out.add (.inr ⟨rfl,rfl⟩) Ha.out HGA'.out (by omega) hq0 hlim.2;have hl9:(lines++[Ln.mk ((i:Int)+1) usd q lim]).length=lines.length+1:=by simp
      have own9:(w7.setCell ⟨bx,2,none⟩ (.slice A7 (lines.length+1) c7)).ownsRow wz.heap.size 74 5 (.slice A7 (lines++[Ln.mk ((i:Int)+1) usd q lim]).length c7) (lines++[Ln.mk ((i:Int)+1) usd q lim]).length (flR lnR (lines++[Ln.mk ((i:Int)+1) usd q lim])):=by rw[hl9,cV];exact aR own7 F8 (by intro z hz;simp at hz;omega)
      have hlen9:lines.length≤2*i+1:=HGL.out.len;go_roundw
      case rel=>(first|exact⟨1+1,lines++[Ln.mk ((i:Int)+1) usd q lim],A7,c7,by go_num,by omega,HGL9,by rw[hl9];omega,FF.own F8 (by simp;omega),by have:=F8.size;omega,S7.frs F8 (by simp;omega),aF b2 F8 (by simp;omega),by rw[hl9];exact b9,hac7.keep (fun b hb=>⟨hb,F8.block b (by omega) (by simp;omega)⟩),own9⟩|((repeat apply Exists.intro);refine⟨⟨1+1,lines++[Ln.mk ((i:Int)+1) usd q lim],A7,c7,?_,by omega,HGL9,by rw[hl9];omega,FF.own F8 (by simp;omega),by have:=F8.size;omega,S7.frs F8 (by simp;omega),aF b2 F8 (by simp;omega),by rw[hl9];exact b9,hac7.keep (fun b hb=>⟨hb,F8.block b (by omega) (by simp;omega)⟩),own9⟩,rfl⟩;go_num))
      case measure=>simp[intOf]
     obtain rfl:j=2:=by omega
     go_wp2_with fail;go_roundw
     case rel=>(first|exact⟨i+1,lines,A2,c2,by go_num,by omega,HGL.out.next,hl10,F,hzz,S,b2,b3,hac,own⟩|((repeat apply Exists.intro);refine⟨⟨i+1,lines,A2,c2,?_,by omega,HGL.out.next,hl10,F,hzz,S,b2,b3,hac,own⟩,rfl⟩;go_num))
     case measure=>simp[intOf];omega
   have hin:¬(i:Int)+1≤n:=by have:=HKN.out;omega
   obtain rfl:i=k:=by omega
   go_wp2_with fail;refine(cN 6 g wy (by omega) S).mono ?_;rintro e wa ⟨m0,rfl,m1,m2,Sa,Fa⟩;have b2:=aF b2 Fa (by simp;omega);have b3:=aF b3 Fa (by simp;omega);have F:=F.same Fa;have hza:=Fa.size;have hX0:LgX (bx+1) wa ⟨xn,accs,lines,[],1,xf,kl⟩ (.slice A i c) (.slice A2 lines.length c2) (.slice none 0 0):=by
    obtain⟨⟨u1,u2⟩,⟨u3,u4⟩,u5⟩:=HX.out;refine⟨(hac.keep (fun b hb=>⟨hb,Fa.block b (by omega) (by simp;omega)⟩)).keep (fun b hb=>⟨⟨hb.1,by omega⟩,rfl⟩),(SlD.own_dn (aR own Fa (by intro q hq;injection hq with hq;omega))).keep (dH (by omega)),SlD.nil _ _ _,fun x hx=>?_,fun x hx=>?_,by simp,by show Wi xn;constructor<;>omega,by show Wi 1;constructor<;>decide,by show Wi xf;constructor<;>omega,by show kl<_;omega⟩
    ·exact HGA'.out.ok (by omega) x hx
    exact DP HGA'.out (by omega) HGL.out.ok x hx
   have hG0:Hid (Ga accs xn xf kl ⟨xn,accs,lines,[],1,xf,kl⟩):=by
    obtain⟨⟨u1,u2⟩,⟨u3,u4⟩,u5⟩:=HX.out;exact⟨zT (HGL.out.chk HGA'.out (by omega) (by omega)) rfl (by show 1≤(1:Int)∧(1:Int)≤1000000;omega) ⟨by show 0≤xf;omega,by show xf≤_;omega⟩ ⟨by show 0≤xn;omega,by show xn≤_;omega⟩,rfl,rfl,rfl,rfl⟩
   have b3:wa.heap[bx]?=some (.cells #[.int .i64 xn,.slice A i c,.slice A2 lines.length c2,.slice none 0 0,.int .i64 1,.int .i64 xf,.int .u64 (kl:Int)] 30 (0,0)):=b3;have m2:m0≤5:=by omega
   clear HGL hac own hza Fa S hin;go_wp2_with fail;go_loopw [10] (fun s10 wr=>∃(m:Int) (G:Lgr) (va vl vo:Value),s10= .int .i64 m∧m≤5∧Hid (Ga accs xn xf kl G)∧Fr (some g) w wr∧bx<wr.heap.size∧bP 69 wr g∧wr.heap[w.heap.size]?=some (.cells #[.int .i64 0,.slice none 0 0,.slice none 0 0,.slice none 0 0,.int .i64 0,.int .i64 0,.int .u64 0] 30 (0,0))∧wr.heap[bx]?=some (.cells #[.int .i64 G.num,va,vl,vo,.int .i64 G.nid,.int .i64 G.fees,.int .u64 (G.link:Int)] 30 (0,0))∧LgX (bx+1) wr G va vl vo) (fun s10 _=>(intOf s10).toNat)
   case atStart=>exact⟨m0,_,_,_,_,rfl,m2,hG0,F,aC b3,Sa,b2,b3,hX0⟩
   case round=>
    clear b2 b3 F Sa hG0 hX0;obtain⟨m,G,va,vl,vo,rfl,hm5,HG,F,hz4,S,b2,b3,hX⟩:=hrel;obtain⟨wv,hwv⟩:∃wv:World,wv=wr:=⟨_,rfl⟩;subst hwv;by_cases hm:0<m
    ·go_upto_region 20 with(fail)
     refine sY g bx (bx+1) n G va vl vo wv _ _ (by simp) rfl rfl rfl S hX (by omega) b3 ⟨n1,n2⟩ (by omega) ?_;intro L ys W hJ hall;obtain⟨va2,vl2,vo2,G2,id,e,h17,⟨⟨A7,n7,c7,rfl⟩,⟨A8,n8,c8,rfl⟩,⟨A9,n9,c9,rfl⟩⟩,hgood⟩:=hJ.k17 (hall 17 (by omega));obtain⟨b,hb1,hb2,hb3,_,hblk⟩:=hJ.k22 (hall 22 (by omega));have hblk:=hblk (hall 23 (by omega)) _ _ _ _ _ _ _ _ _ h17;have y24:ys 24= .int .i64 id:=(hJ.kC 24 (by decide) (hall 24 (by omega))).trans (by rw[h17];rfl);have y25:ys 25= .int .i64 e:=(hJ.kC 25 (by decide) (hall 25 (by omega))).trans (by rw[h17];rfl);simp only[lA,xE,Act.put,List.setIfInBounds_toArray,List.set_cons_zero,List.set_cons_succ,Nat.zero_add,Nat.reduceAdd,hb1,y24,y25];have FW:=hJ.fr;have SW:=hJ.src;have b2:=aF b2 FW (by simp;omega);have b3:=aF b3 FW (by simp;omega);have F:=F.same FW;have hXW:=hX.fr FW (by intro q hq;injection hq with hq;omega);have hw4:=FW.size;have Hgood:=sH hgood;clear hJ hall h17 hb1 y24 y25 hgood hX S;have hm1:IntKind.i64.wrap (m - 1)=m - 1:=by rw[IntKind.wrap_i64];omega
     by_cases he:e=0
     ·have e1:(e == 0)=true:=by rw[beq_iff_eq];exact he
      obtain⟨r1,r2,r3,r4,r5,r6,r7,r8,r9,r10,r11⟩:=Hgood.out he;have HG2:Hid (Ga accs xn xf kl G2):=⟨r1,r2.trans HG.out.acc,r4.trans HG.out.num,r5.trans HG.out.fees,r6.trans HG.out.link⟩;have HX2:Hid (LgX (bx+1) W G2 (.slice A7 n7 c7) (.slice A8 n8 c8) (.slice A9 n9 c9)):=by
       refine⟨by rw[r2,r7];exact hXW.a,by rw[r3,r8];exact hXW.l,r11.keep fun q hq=>⟨⟨by have:=hq.1.1;omega,hq.1.2⟩,rfl⟩,by rw[r2];exact hXW.oa,by rw[r3];exact hXW.ol,r9,by rw[r4];exact hXW.wn,r10,by rw[r5];exact hXW.wf,by rw[r6];exact hXW.wl⟩
      clear r1 r2 r3 r4 r5 r6 r7 r8 r9 r10 r11 he hXW Hgood HG;have d0:W.cell? ⟨bx,0,none⟩=some (.int .i64 G.num):=by rw[aA b3];rfl
      have d1:W.cell? ⟨bx,1,none⟩=some va:=by rw[aA b3];rfl
      have d2:W.cell? ⟨bx,2,none⟩=some vl:=by rw[aA b3];rfl
      have d3:W.cell? ⟨bx,3,none⟩=some vo:=by rw[aA b3];rfl
      have d4:W.cell? ⟨bx,4,none⟩=some (.int .i64 G.nid):=by rw[aA b3];rfl
      have d5:W.cell? ⟨bx,5,none⟩=some (.int .i64 G.fees):=by rw[aA b3];rfl
      have d6:W.cell? ⟨bx,6,none⟩=some (.int .u64 (G.link:Int)):=by rw[aA b3];rfl
      have f0:=aB b3 0;have f1:=aB b3 1;have f2:=aB b3 2;have f3:=aB b3 3;have f4:=aB b3 4;have f5:=aB b3 5;have f6:=aB b3 6;have lb3:=aC b3;have c0:W.cell? ⟨b,0,none⟩=some (.int .i64 G2.num):=by rw[aA hblk];rfl
      have c1:W.cell? ⟨b,1,none⟩=some (.slice A7 n7 c7):=by rw[aA hblk];rfl
      have c2:W.cell? ⟨b,2,none⟩=some (.slice A8 n8 c8):=by rw[aA hblk];rfl
      have c3:W.cell? ⟨b,3,none⟩=some (.slice A9 n9 c9):=by rw[aA hblk];rfl
      have c4:W.cell? ⟨b,4,none⟩=some (.int .i64 G2.nid):=by rw[aA hblk];rfl
      have c5:W.cell? ⟨b,5,none⟩=some (.int .i64 G2.fees):=by rw[aA hblk];rfl
      have c6:W.cell? ⟨b,6,none⟩=some (.int .u64 (G2.link:Int)):=by rw[aA hblk];rfl
      go_wp2_with fail;have hs:=aI (aI (aI (aI (aI (aI (aI b3 0 (.int .i64 G2.num)) 1 (.slice A7 n7 c7)) 2 (.slice A8 n8 c8)) 3 (.slice A9 n9 c9)) 4 (.int .i64 G2.nid)) 5 (.int .i64 G2.fees)) 6 (.int .u64 (G2.link:Int));simp only[List.setIfInBounds_toArray,List.set_cons_zero,List.set_cons_succ] at hs;have FZ:Fr (some bx) W _:=((((((Fr.set1 W ⟨bx,0,none⟩ (.int .i64 G2.num)).same (Fr.set1 _ ⟨bx,1,none⟩ (.slice A7 n7 c7))).same (Fr.set1 _ ⟨bx,2,none⟩ (.slice A8 n8 c8))).same (Fr.set1 _ ⟨bx,3,none⟩ (.slice A9 n9 c9))).same (Fr.set1 _ ⟨bx,4,none⟩ (.int .i64 G2.nid))).same (Fr.set1 _ ⟨bx,5,none⟩ (.int .i64 G2.fees))).same (Fr.set1 _ ⟨bx,6,none⟩ (.int .u64 (G2.link:Int)));generalize World.setCell _ _ _=W2 at hs FZ ⊢;go_roundw
      case rel=>
       have q1:Fr (some g) w W2:=F.own FZ (by intro q hq;injection hq with hq;omega);have q2:=SW.frs FZ (by intro q hq;injection hq with hq;omega);have q3:=aF b2 FZ (by simp;omega);have q4:=HX2.out.fr FZ (by intro q hq;injection hq with hq;omega);have q5:=FZ.size
       (first|exact⟨m - 1,G2,_,_,_,by go_num,by omega,HG2,q1,by omega,q2,q3,hs,q4⟩|((repeat apply Exists.intro);exact⟨⟨rfl,by omega,HG2,q1,by omega,q2,q3,hs,q4⟩,rfl⟩))
      case measure=>simp[intOf];omega
     have e1:(e == 0)=false:=by rw[beq_eq_false_iff_ne];exact he
     clear he Hgood hblk;go_wp2_with fail;go_roundw
     case rel=>(first|exact⟨m - 1,G,va,vl,vo,by go_num,by omega,HG,F,by omega,SW,b2,b3,hXW⟩|((repeat apply Exists.intro);exact⟨⟨rfl,by omega,HG,F,by omega,SW,b2,b3,hXW⟩,rfl⟩))
     case measure=>simp[intOf];omega
    obtain⟨A7,n7,c7,rfl⟩:=isl hX.a;obtain⟨A8,n8,c8,rfl⟩:=isl hX.l;obtain⟨A9,n9,c9,rfl⟩:=isl hX.o;have d0:wv.cell? ⟨bx,0,none⟩=some (.int .i64 G.num):=by rw[aA b3];rfl
    have d1:wv.cell? ⟨bx,1,none⟩=some (.slice A7 n7 c7):=by rw[aA b3];rfl
    have d2:wv.cell? ⟨bx,2,none⟩=some (.slice A8 n8 c8):=by rw[aA b3];rfl
    have d3:wv.cell? ⟨bx,3,none⟩=some (.slice A9 n9 c9):=by rw[aA b3];rfl
    have d4:wv.cell? ⟨bx,4,none⟩=some (.int .i64 G.nid):=by rw[aA b3];rfl
    have d5:wv.cell? ⟨bx,5,none⟩=some (.int .i64 G.fees):=by rw[aA b3];rfl
    have d6:wv.cell? ⟨bx,6,none⟩=some (.int .u64 (G.link:Int)):=by rw[aA b3];rfl
    have r0:wv.cell? ⟨w.heap.size,0,none⟩=some (.int .i64 0):=by rw[aA b2];rfl
    have r1:wv.cell? ⟨w.heap.size,1,none⟩=some (.slice none 0 0):=by rw[aA b2];rfl
    have r2:wv.cell? ⟨w.heap.size,2,none⟩=some (.slice none 0 0):=by rw[aA b2];rfl
    have r3:wv.cell? ⟨w.heap.size,3,none⟩=some (.slice none 0 0):=by rw[aA b2];rfl
    have r4:wv.cell? ⟨w.heap.size,4,none⟩=some (.int .i64 0):=by rw[aA b2];rfl
    have r5:wv.cell? ⟨w.heap.size,5,none⟩=some (.int .i64 0):=by rw[aA b2];rfl
    have r6:wv.cell? ⟨w.heap.size,6,none⟩=some (.int .u64 0):=by rw[aA b2];rfl
    have f0:=aB b2 0;have f1:=aB b2 1;have f2:=aB b2 2;have f3:=aB b2 3;have f4:=aB b2 4;have f5:=aB b2 5;have f6:=aB b2 6;have lb2:=aC b2;go_wp2;refine bodyPost_ret (v:=bxv G (.slice A7 n7 c7) (.slice A8 n8 c8) (.slice A9 n9 c9)) (by simp[results,Tryz.results8,go_sem,r0,r1,r2,r3,r4,r5,r6,bxv]) rfl ?_;have FZ:Fr (some w.heap.size) wv _:=((((((Fr.set1 wv ⟨w.heap.size,0,none⟩ (.int .i64 G.num)).same (Fr.set1 _ ⟨w.heap.size,1,none⟩ (.slice A7 n7 c7))).same (Fr.set1 _ ⟨w.heap.size,2,none⟩ (.slice A8 n8 c8))).same (Fr.set1 _ ⟨w.heap.size,3,none⟩ (.slice A9 n9 c9))).same (Fr.set1 _ ⟨w.heap.size,4,none⟩ (.int .i64 G.nid))).same (Fr.set1 _ ⟨w.heap.size,5,none⟩ (.int .i64 G.fees))).same (Fr.set1 _ ⟨w.heap.size,6,none⟩ (.int .u64 (G.link:Int)));generalize World.setCell _ _ _=W2 at FZ ⊢;have hX2:=hX.fr FZ (by intro q hq;injection hq with hq;omega);obtain⟨⟨u1,u2⟩,⟨u3,u4⟩,u5⟩:=HX.out;obtain⟨g1,g2,g3,g4,g5⟩:=HG.out;refine⟨_,_,_,G,rfl,hX2.mono (by omega),⟨g1,by rw[g2];exact HGA'.out,by rw[g2];have:=HKN.out;omega,by rw[g3];omega,by rw[g4];omega,by rw[g5];omega⟩,S.frs FZ (by intro q hq;injection hq with hq;omega),F.own FZ (by intro q hq;injection hq with hq;omega)⟩
theorem Hw:cH Tryz.prog 22 3 1 8:=cH.mk_ (z:=.int .i64 0) (by kernel_rfl) (by kernel_rfl) rfl (by omega)
def IM(n:Nat):List Int:=(List.range n).map Int.ofNat
theorem EY(l:List Int)(v:Value)(w:World)(r:Option Nat)(h:SlI w r v l):Calls Tryz.prog 43 #[v] w fun e w'=>e= .returned (.int .i64 (orL l))∧w=w':=by
 have hwi:=h.2;obtain⟨A,c,rfl,q1,q2,hc⟩:=h.open_;go_enter Tryz.func43,Tryz.ntmps43;go_wp2_with fail
 go_loop [8] (fun i=>∃k:Nat,k≤l.length∧i= .int .i64 k∧∀j (hj:j<l.length),j<k→l[j]=0) (fun i=>l.length - (intOf i).toNat)
 case atStart=>exact⟨0,Nat.zero_le _,rfl,fun j hj h=>by omega⟩
 case round=>
  exact GR
end Go.Proofs.YthaggndnfamhjaaGreatDoor
