/- Texts, joined. -/
import Derived.Test.YthaggndnfamhjaaGreatDoorProg
import Derived.Test.YthaggndnfamhjaaGreatDoorJK8
import Derived.Test.YthaggndnfamhjaaGreatDoorJK22
import Derived.Test.YthaggndnfamhjaaGreatDoorJK4
import Derived.Test.YthaggndnfamhjaaGreatDoorJA

set_option linter.unusedSimpArgs false
set_option linter.unusedVariables false
set_option maxRecDepth 100000
set_option maxHeartbeats 16000000
namespace Go.Proofs.YthaggndnfamhjaaGreatDoor
open Go.RowKit
def tx0:TxX:=⟨0,0,0,[],none,0⟩
theorem DL{w:World}{b:Nat}{t:TxX}(h:TxB w b t)(t':TxX)(w':World)(hw:w'=(((w.setCell ⟨b,0,none⟩ (.int .i64 t'.src)).setCell ⟨b,1,none⟩ (.int .i64 t'.seq)).setCell ⟨b,2,none⟩ (.int .i64 t'.fee)).setCell ⟨b,3,none⟩ (.slice t'.A t'.ops.length t'.c)):TxB w' b t'∧Fr (some b) w w':=by
 have F0:Fr (some b) w _:=Fr.set1 w ⟨b,0,none⟩ (.int .i64 t'.src);have F1:Fr (some b) w _:=F0.setRow (p:=⟨b,1,none⟩) rfl (.int .i64 t'.seq);have F2:Fr (some b) w _:=F1.setRow (p:=⟨b,2,none⟩) rfl (.int .i64 t'.fee);have F3:Fr (some b) w _:=F2.setRow (p:=⟨b,3,none⟩) rfl (.slice t'.A t'.ops.length t'.c);rw[hw];exact⟨aI (aI (aI (aI h 0 _) 1 _) 2 _) 3 _,F3⟩
theorem GS{w:World}{b:Nat}{t:TxX}(h:TxB w b t)(t':TxX)(w':World)(hw:w'=((((w.setCell ⟨b,0,none⟩ (.int .i64 t'.src)).setCell ⟨b,1,none⟩ (.int .i64 t'.seq)).setCell ⟨b,2,none⟩ (.int .i64 t'.fee)).setCell ⟨b,3,none⟩ (.slice t'.A t'.ops.length t'.c)).drew):TxB w' b t'∧Fr (some b) w w':=by
 obtain⟨R,G⟩:=DL h t' _ rfl;rw[hw];exact⟨R,G.drew⟩
theorem eR{w:World}{b:Nat}{t:TxX}(h:TxB w b t):∀k,w.frozen? ⟨b,k,none⟩=false:=fun k=>h.free k
def TrP(s:List UInt8)(t:TxX)(ok:Bool):Prop:=(ok=true→rdT s=some t.pl)∧(ok=false→rdT s=none)
def TxN(B:Nat)(w:World)(t:TxX):Prop:=SlN opR B w t.v t.ops∧∀x ∈ t.ops,SlN cB B w x.v x.o.path
theorem TxN.fr{B:Nat}{r:Option Nat}{w w':World}{t:TxX}(h:TxN B w t)(f:Fr r w w')(hr:∀g,r=some g→g<B:=by simp):TxN B w' t:=⟨h.1.fr f hr,fun x hx=>(h.2 x hx).fr f hr⟩
theorem TxN.mono{B B':Nat}{w:World}{t:TxX}(h:TxN B w t)(hB:B'≤B):TxN B' w t:=⟨h.1.mono hB,fun x hx=>(h.2 x hx).mono hB⟩
theorem TxN.d{B:Nat}{w:World}{t:TxX}(h:TxN B w t)(r:Option Nat)(hr:∀g,r=some g→g<B):TxD w r t:=⟨h.1.sl r hr,fun x hx=>(h.2 x hx).sl r hr⟩
theorem Bt{w:World}{D:Nat→Prop}{A:Option Addr}{n c:Nat}{xs:List Value}(h:SlD w D 1 (.slice A n c) xs)(m:Nat)(hm:m≤n):SlD w D 1 (.slice A m c) (xs.take m):=by
 have:=h.take m hm
 rwa [Nat.mul_one] at this
theorem DM{s:List UInt8}(h:(eO 32 s).length<4):rdT s=none:=by
 unfold rdT;simp only;rw[if_pos h]
theorem GT:cH Tryz.prog 32 49 12 128:=cH.mk_ (z:=.agg #[.int .i64 0,.int .i64 0,.int .i64 0,.int .i64 0,.string ⟨#[]⟩,.int .i64 0,.string ⟨#[]⟩,.int .i64 0,.int .i64 0,.int .i64 0,.int .i64 0,.slice none 0 0]) (by kernel_rfl) (by kernel_rfl) rfl (by omega)
theorem qW:∀(L:List (List UInt8)) (x:List UInt8) (l:List Opr) (o:Opr),jK L=some l→rdO x=some o→jK (L++[x])=some (l++[o])
 |[],x,l,o,h,k=>by
  have:l=[]:=by simpa[jK] using h.symm
  subst this;show jK [x]=_;unfold jK;rw[k];rfl
 |y::L,x,l,o,h,k=>by
  unfold jK at h;cases hy:rdO y with
  |none=>rw[hy] at h;simp at h
  |some a=>
   cases hL:jK L with
   |none=>rw[hy,hL] at h;simp at h
   |some b=>
    rw[hy,hL] at h;have:l=a::b:=by simpa using h.symm
    subst this;show jK (y::(L++[x]))=_;unfold jK;rw[hy,qW L x b o hL k];rfl
theorem qX:∀(L:List (List UInt8)) (k:Nat) (hk:k<L.length),rdO L[k]=none→jK L=none
 |y::L,0,_,h=>by
  unfold jK;have:rdO y=none:=h;rw[this]
 |y::L,k+1,hk,h=>by
  unfold jK;rw[qX L k (by simpa using hk) (by simpa using h)];cases rdO y<;>rfl
theorem Bu{W:List (List UInt8)}{i:Nat}(h:i<3)(hW:4≤W.length):fdN ((W.take 3).drop i)=fdN (W.drop i):=by
 match W,hW with
 |a::b::c::d::r,_=>
  have:i=0∨i=1∨i=2:=by omega
  rcases this with rfl|rfl|rfl<;>rfl
theorem FU{s:List UInt8}{W:List (List UInt8)}{n1 n2 n3:Int}{b1 b2 b3:Bool}{l:List OpX}(hW:W=eO 32 s)(h4:4≤W.length)(h1:wS ((W.take 3).drop 0) false n1 b1)(h2:wS ((W.take 3).drop 1) b1 n2 b2)(h3:wS ((W.take 3).drop 2) b2 n3 b3)(ho:jK (W.drop 3)=some (l.map (·.o)))(A:Option Addr)(c:Nat):TrP s ⟨n1,n2,n3,l,A,c⟩ (!b3):=by
 have g1:=Bu (i:=0) (by omega) h4;have g2:=Bu (i:=1) (by omega) h4;have g3:=Bu (i:=2) (by omega) h4;unfold rdT at*
 unfold TrP;unfold wS at h1 h2 h3;rw[g1] at h1;rw[g2] at h2;rw[g3] at h3;unfold rdT;simp only;rw[←hW,if_neg (by omega)];constructor
 ·intro hb;have hb3:b3=false:=by simpa using hb
  obtain⟨e2,f3⟩:=h3.1 hb3;obtain⟨e1,f2⟩:=h2.1 e2;obtain⟨_,f1⟩:=h1.1 e1;rw[List.drop_zero] at f1;rw[f1,f2,f3,ho];rfl
 intro hb;have hb3:b3=true:=by simpa using hb
 have:fdN W=none∨fdN (W.drop 1)=none∨fdN (W.drop 2)=none:=by
  rcases h3.2 hb3 with h|h
  ·rcases h2.2 h with h|h
   ·rcases h1.2 h with h|h
    ·cases h
    rw[List.drop_zero] at h;exact .inl h
   exact .inr (.inl h)
  exact .inr (.inr h)
 rcases this with h|h|h
 ·rw[h]
 ·rw[h];split<;>simp_all
 rw[h];split<;>simp_all
theorem DN{s:List UInt8}{W:List (List UInt8)}(hW:W=eO 32 s)(h4:4≤W.length)(k:Nat)(hk:k<(W.drop 3).length)(h:rdO (W.drop 3)[k]=none):rdT s=none:=by
 unfold rdT;simp only;rw[←hW,if_neg (by omega),qX _ k hk h];split<;>simp_all
def TrC(s:List UInt8):Prop:=∀w:World,Errs w→Mxl w→s.length≤1000000→(∀c ∈ s,c.toNat<128)→0<w.heap.size→Calls Tryz.prog 69 #[.string (bL s)] w fun e w'=>∃t ok,e= .returned (.tuple #[txV t,.bool ok])∧TrP s t ok∧TxN w.heap.size w' t∧TxW t∧Fr none w w'
theorem Bv(s:List UInt8)(w:World)(hE:Errs w)(hM:Mxl w)(hL:s.length≤1000000)(hA:∀c ∈ s,c.toNat<128)(hmx:0<w.heap.size)(hRD:∀x ∈ (eO 32 s).drop 3,RdC x):Calls Tryz.prog 69 #[.string (bL s)] w fun e w'=>∃t ok,e= .returned (.tuple #[txV t,.bool ok])∧TrP s t ok∧TxN w.heap.size w' t∧TxW t∧Fr none w w':=by
 have HRD:=sH hRD;clear hRD;have HA:=sH hA;have hew:=hE.lt;have HEW:Hid (3<w.heap.size∧4<w.heap.size∧0<w.heap.size):=⟨hew.1,hew.2,hmx⟩;clear hA hew hmx;go_enter Tryz.func69,Tryz.ntmps69;go_upto_region 1 with(fail)
 generalize hW:w.alloc _=w0;have F0:Fr none w w0:=hW▸(Fr.refl none w).alloc _;have hR:TxB w0 w.heap.size tx0:=by rw[←hW];exact aD _ _
 have hE0:=hE.frs F0 (by simp) (by simp);have hM0:=hM.frs F0 (by simp);clear hW hE hM;go_wp2_with fail;refine(mI 32 s w0 hM0 hL).mono ?_;rintro e w1 ⟨A,n,c,rfl,hn,hs,F1⟩;have hR:=hR.fr F1;have hE1:=hE0.frs F1 (by simp) (by simp);have hM1:=hM0.frs F1 (by simp);have FF:=F0.pure F1;have hs0:=F0.size;have hrl:=hR.lt;have hfz:=eR hR;obtain⟨e0,e1,e2,e3⟩:=bD hR;simp only[tx0,List.length_nil] at e0 e1 e2 e3;obtain⟨W,hWs⟩:∃W,W=eO 32 s:=⟨_,rfl⟩;rw[←hWs] at hn hs;have HN:=sH hn;have HWs:=sH hWs;clear hn hWs hE0 hM0 F0;by_cases h4:(n:Int)<4
 ·have H4:=sH h4;go_wp2_with fail;generalize hW5:World.setCell _ _ _=w9;obtain⟨R9,G9⟩:=DL hR tx0 w9 hW5.symm;clear hW5 e0 e1 e2 e3;obtain⟨e0,e1,e2,e3⟩:=bD R9;try dsimp only at e0 e1 e2 e3
  refine bodyPost_ret (v:=.tuple #[txV tx0,.bool false]) (by simp[results,Tryz.results69,go_sem,txV,tx0,e0,e1,e2,e3]) rfl ?_;exact⟨tx0,false,rfl,⟨(fun e=>by cases e),fun _=>DM (by rw[←HWs.out,←HN.out];have:=H4.out;omega)⟩,⟨SlN.nil _ _ _,(fun x hx=>by cases hx)⟩,⟨wi0,wi0,wi0⟩,FF.new G9 (Nat.le_refl _)⟩
 have H4:Hid (4≤n):=by unfold Hid;omega
 have hc4:n≤c∧c≤9223372036854775807:=by obtain⟨A',n',c',e,_,hc,hm,_⟩:=hs;injection e with e1 e2 e3;subst e2 e3;exact⟨hc,hm⟩
 have hq4:4≤n:=H4.out;obtain⟨q,off,hAq,hqD⟩:∃q off,A=some ⟨q,off,none⟩∧(w0.heap.size≤q∧q<w1.heap.size):=by
  obtain⟨A',n',c',e,_,hc,hm,hx⟩:=hs;injection e with e1 e2 e3
  subst e1 e2 e3;obtain⟨q,off,h1,h2,_⟩:=hx (by omega);exact⟨q,off,h1,h2⟩
 subst hAq;clear e0 e1 e2 e3 hfz hrl;go_upto_region 6 with(fail)
 obtain⟨fb,hfb0⟩:∃fb,fb=w1.heap.size:=⟨_,rfl⟩;rw[←hfb0];have b1:(w1.alloc (.cells #[.slice (some ⟨q,off,none⟩) 3 c,.bool false] 143)).heap[fb]?=some (.cells #[.slice (some ⟨q,off,none⟩) 3 c,.bool false] 143 (0,0)):=by rw[hfb0];exact aD _ _
 generalize hW1:w1.alloc _=w2 at b1 ⊢;have F2:Fr none w1 w2:=hW1▸(Fr.refl none w1).alloc _;have s2:w2.heap.size=fb+1:=by rw[←hW1,hfb0];exact Array.size_push _
 clear hW1;generalize hW2:w2.alloc _=wn0;have b2:TxB wn0 (fb+1) tx0:=by rw[←hW2,←s2];exact aD _ _
 have F3:Fr none w2 wn0:=hW2▸(Fr.refl none w2).alloc _;clear hW2;obtain⟨tb,htb0⟩:∃tb,tb=fb+1:=⟨_,rfl⟩;rw[←htb0] at b2 ⊢;have hft:fb<tb:=by omega
 have hwf:w.heap.size<fb:=by have:=hR.lt;omega
 have hqf:q<fb:=by omega
 have F23:=F2.pure F3;have FF:=FF.pure F23;have hT:TxB wn0 tb ⟨0,0,0,[],none,0⟩:=b2;have hR:=hR.fr F23;have hE:Errs wn0:=hE1.frs F23 (by simp) (by simp);have hM:Mxl wn0:=hM1.frs F23 (by simp);have hF:FdB wn0 fb fb ((W.take 3).drop 0) false:=by
  have hs2:=s2;have hs3:=F3.size;have hlen:(W.take 3).length=3:=by rw[List.length_take];have:=HN.out;omega
  rw[List.drop_zero];refine⟨by omega,some ⟨q,off,none⟩,c,by rw[hlen];exact aF b1 F3 (by simp),?_⟩;rw[hlen,List.map_take];exact(Bt hs 3 (by omega)).keep (D':=Db fb fb) (fun j hj=>⟨⟨by omega,by omega⟩,by rw[F3.block j (by omega) (by simp),F2.block j (by omega) (by simp)]⟩)
 have hcells:∀k (hk:k<W.length),wn0.cell? ⟨q,off+k,none⟩=some (.string (bL W[k])):=by
  intro k hk;obtain⟨A',n',c',e,_,hc,hm,hx⟩:=hs;injection e with e1 e2 e3
  subst e2 e3;obtain⟨q',off',h1,h2,h3⟩:=hx (by omega);rw[←e1] at h1;injection h1 with h1
  injection h1 with h1 h1'
  subst h1 h1';have:=h3 k (.string (bL W[k])) (by simp[hk]);exact F23.keep this
 have hC:=hcells;have hqf':some q≠some fb:=fun e=>by have:=Option.some.inj e;omega
 have hqt':some q≠some tb:=fun e=>by have:=Option.some.inj e;omega
 have hnb1:fb≠3∧tb≠3:=by have:=HEW.out.1;exact⟨by omega,by omega⟩
 have hnb2:fb≠4∧tb≠4:=by have:=HEW.out.2.1;exact⟨by omega,by omega⟩
 have hnb3:fb≠0∧tb≠0:=by have:=HEW.out.2.2;exact⟨by omega,by omega⟩
 have HLn:Hid (∀i,∀x ∈ (W.take 3).drop i,x.length≤1000000∧∀c ∈ x,c.toNat<128):=fun i x hx=>by
  have hx':=List.mem_of_mem_take (List.mem_of_mem_drop hx);rw[HWs.out] at hx';have:=lM hx';exact⟨by omega,fun c hc=>HA.out c (this.2 c hc)⟩
 have HLw:Hid (∀x ∈ W,x.length≤1000000∧∀c ∈ x,c.toNat<128):=fun x hx=>by
  rw[HWs.out] at hx;have:=lM hx;exact⟨by omega,fun c hc=>HA.out c (this.2 c hc)⟩
 have hne:some fb≠some tb:=fun e=>by have:=Option.some.inj e;omega
 have hne':some tb≠some fb:=fun e=>by have:=Option.some.inj e;omega
 have hnr:some fb≠some w.heap.size:=fun e=>by have:=Option.some.inj e;omega
 have hnr':some tb≠some w.heap.size:=fun e=>by have:=Option.some.inj e;omega
 have hfb:w.heap.size≤fb:=by omega
 have htb:w.heap.size≤tb:=by omega
 have htb':fb≤tb:=by omega
 have Z1:some fb≠some 3:=fun e=>hnb1.1 (Option.some.inj e);have Z2:some fb≠some 4:=fun e=>hnb2.1 (Option.some.inj e);have Z3:some tb≠some 3:=fun e=>hnb1.2 (Option.some.inj e);have Z4:some tb≠some 4:=fun e=>hnb2.2 (Option.some.inj e);have ZM1:some fb≠some 0:=fun e=>hnb3.1 (Option.some.inj e);have ZM2:some tb≠some 0:=fun e=>hnb3.2 (Option.some.inj e);obtain⟨wz,hwz⟩:∃wz:World,wz=wn0:=⟨_,rfl⟩;have HWZ:Hid (Fr none wn0 wn0):=Fr.refl _ _;clear hs b1 b2 s2 hfb0 htb0 F1 F2 F3 F23 hE1 hM1 hcells hqD hwz wz;go_wp2_with fail;refine(iM fb fb ((W.take 3).drop 0) false _ hF hE (fun x hx=>(HLn.out 0 x hx).1) hnb1.1 hnb2.1).mono ?_;rintro e wn1 ⟨n1,b1,rfl,hf,hN1,hW1,F⟩;have hF2:FdB wn1 fb fb ((W.take 3).drop 1) b1:=by rw[List.drop_drop] at hf;exact hf
 have hT2:=hT.fr F hne;have hE2:=hE.frs F Z1 Z2;have hM2:=hM.frs F ZM1;have hR2:=hR.fr F hnr;have FF2:=FF.new F hfb;have hC2:=fun k hk=>F.keep (hC k hk) hqf';have HN1:=sH hN1;have HW1:=sH hW1;clear hf hT hF hE hM hR FF hC F hN1 hW1;have hT:=hT2;have hF:=hF2;have hE:=hE2;have hM:=hM2;have hR:=hR2;have FF:=FF2;have hC:=hC2;clear hT2 hF2 hE2 hM2 hR2 FF2 hC2;have zc:=TxB.free hT 0;have ec:World.cell? wn1 ⟨tb,0,none⟩=_:=TxB.cell hT 0;have elc:=TxB.lt hT;simp only[txC,List.getElem?_cons_zero,List.getElem?_cons_succ] at ec;go_wp2_with fail;generalize hW:World.setCell _ _ _=wn2;have G:Fr (some tb) wn1 wn2:=hW▸Fr.set1 wn1 ⟨tb,0,none⟩ (.int .i64 n1);have hT2:TxB wn2 tb ⟨n1,0,0,[],none,0⟩:=by rw[←hW];exact aI hT 0 (.int .i64 n1)
 have hF2:=hF.fr G hne' (fun g e=>by rw[←Option.some.inj e];exact htb');have hE2:=hE.frs G Z3 Z4;have hM2:=hM.frs G ZM2;have hR2:=hR.fr G hnr';have FF2:=FF.new G htb;have hC2:=fun k hk=>G.keep (hC k hk) hqt';clear hW G hT hF hE hM hR FF hC zc ec elc;have hT:=hT2;have hF:=hF2;have hE:=hE2;have hM:=hM2;have hR:=hR2;have FF:=FF2;have hC:=hC2;clear hT2 hF2 hE2 hM2 hR2 FF2 hC2;refine(iM fb fb ((W.take 3).drop 1) b1 _ hF hE (fun x hx=>(HLn.out 1 x hx).1) hnb1.1 hnb2.1).mono ?_;rintro e wn3 ⟨n2,b2,rfl,hf,hN2,hW2,F⟩;have hF2:FdB wn3 fb fb ((W.take 3).drop 2) b2:=by rw[List.drop_drop] at hf;exact hf
 have hT2:=hT.fr F hne;have hE2:=hE.frs F Z1 Z2;have hM2:=hM.frs F ZM1;have hR2:=hR.fr F hnr;have FF2:=FF.new F hfb;have hC2:=fun k hk=>F.keep (hC k hk) hqf';have HN2:=sH hN2;have HW2:=sH hW2;clear hf hT hF hE hM hR FF hC F hN2 hW2;have hT:=hT2;have hF:=hF2;have hE:=hE2;have hM:=hM2;have hR:=hR2;have FF:=FF2;have hC:=hC2;clear hT2 hF2 hE2 hM2 hR2 FF2 hC2;have zc:=TxB.free hT 1;have ec:World.cell? wn3 ⟨tb,1,none⟩=_:=TxB.cell hT 1;have elc:=TxB.lt hT;simp only[txC,List.getElem?_cons_zero,List.getElem?_cons_succ] at ec;go_wp2_with fail;generalize hW:World.setCell _ _ _=wn4;have G:Fr (some tb) wn3 wn4:=hW▸Fr.set1 wn3 ⟨tb,1,none⟩ (.int .i64 n2);have hT2:TxB wn4 tb ⟨n1,n2,0,[],none,0⟩:=by rw[←hW];exact aI hT 1 (.int .i64 n2)
 have hF2:=hF.fr G hne' (fun g e=>by rw[←Option.some.inj e];exact htb');have hE2:=hE.frs G Z3 Z4;have hM2:=hM.frs G ZM2;have hR2:=hR.fr G hnr';have FF2:=FF.new G htb;have hC2:=fun k hk=>G.keep (hC k hk) hqt';clear hW G hT hF hE hM hR FF hC zc ec elc;have hT:=hT2;have hF:=hF2;have hE:=hE2;have hM:=hM2;have hR:=hR2;have FF:=FF2;have hC:=hC2;clear hT2 hF2 hE2 hM2 hR2 FF2 hC2;refine(iM fb fb ((W.take 3).drop 2) b2 _ hF hE (fun x hx=>(HLn.out 2 x hx).1) hnb1.1 hnb2.1).mono ?_;rintro e wn5 ⟨n3,b3,rfl,hf,hN3,hW3,F⟩;have hF2:FdB wn5 fb fb ((W.take 3).drop 3) b3:=by rw[List.drop_drop] at hf;exact hf
 have hT2:=hT.fr F hne;have hE2:=hE.frs F Z1 Z2;have hM2:=hM.frs F ZM1;have hR2:=hR.fr F hnr;have FF2:=FF.new F hfb;have hC2:=fun k hk=>F.keep (hC k hk) hqf';have HN3:=sH hN3;have HW3:=sH hW3;clear hf hT hF hE hM hR FF hC F hN3 hW3;have hT:=hT2;have hF:=hF2;have hE:=hE2;have hM:=hM2;have hR:=hR2;have FF:=FF2;have hC:=hC2;clear hT2 hF2 hE2 hM2 hR2 FF2 hC2;have zc:=TxB.free hT 2;have ec:World.cell? wn5 ⟨tb,2,none⟩=_:=TxB.cell hT 2;have elc:=TxB.lt hT;simp only[txC,List.getElem?_cons_zero,List.getElem?_cons_succ] at ec;go_upto_region 9 with(fail)
 generalize hW:World.setCell _ _ _=wn6;have G:Fr (some tb) wn5 wn6:=hW▸Fr.set1 wn5 ⟨tb,2,none⟩ (.int .i64 n3);have hT2:TxB wn6 tb ⟨n1,n2,n3,[],none,0⟩:=by rw[←hW];exact aI hT 2 (.int .i64 n3)
 have hF2:=hF.fr G hne' (fun g e=>by rw[←Option.some.inj e];exact htb');have hE2:=hE.frs G Z3 Z4;have hM2:=hM.frs G ZM2;have hR2:=hR.fr G hnr';have FF2:=FF.new G htb;have hC2:=fun k hk=>G.keep (hC k hk) hqt';clear hW G hT hF hE hM hR FF hC zc ec elc;have hT:=hT2;have hF:=hF2;have hE:=hE2;have hM:=hM2;have hR:=hR2;have FF:=FF2;have hC:=hC2;clear hT2 hF2 hE2 hM2 hR2 FF2 hC2;go_wp2_with fail;have HNM:Hid (W.length=(n - 3)+3):=by unfold Hid;have:=HN.out;omega
 have hmn:n - 3≤1000000:=by
  have h1:=sS 32 s;have h2:=HN.out;have h3:=congrArg List.length HWs.out;omega
 generalize n - 3=m at*
 have hts:=hT.lt;have HCW:Hid (∀k (hk:k<W.length),wn6.cell? ⟨q,off+k,none⟩=some (.string (bL W[k]))):=hC;clear hC;go_loopw [33] (fun s33 wr=>∃(k:Nat) (l:List OpX) (Ap:Option Addr) (cp:Nat),k≤m∧s33= .int .i64 (k:Int)∧Hid (jK ((W.drop 3).take k)=some (l.map (·.o)))∧Hid (l.length=k)∧TxB wr tb ⟨n1,n2,n3,l,Ap,cp⟩∧FdB wr fb fb ((W.take 3).drop 3) b3∧Errs wr∧Mxl wr∧TxB wr w.heap.size tx0∧Fr none w wr∧Hid (∀k (hk:k<W.length),wr.cell? ⟨q,off+k,none⟩=some (.string (bL W[k])))∧wr.ownsRow (tb+1) 49 12 (.slice Ap l.length cp) l.length (flR opR l)∧Hid (∀x ∈ l,OpW x.o∧SlD wr (Dx (tb+1) wr (.slice Ap l.length cp)) 2 x.v (flR cB x.o.path)∧∀a ∈ x.o.path,Wi a.iss)∧Hid (tb<wr.heap.size)) (fun s33 _=>m - (intOf s33).toNat)
 case atStart=>exact⟨0,[],none,0,Nat.zero_le _,rfl,rfl,rfl,hT,hF,hE,hM,hR,FF,HCW.out,World.ownsRow_nil _ _ _ _,(fun x hx=>by cases hx),hts⟩
 case round=>
  clear hT hF hE hM hR FF HCW hts;obtain⟨k,l,Ap,cp,hk,rfl,HAL,HLK,hT,hF,hE,hM,hR,FF,HCW,own,HPs,HTS⟩:=hrel;have htk:(k:Int)≤1000000:=by omega
  by_cases hlt:k<m
  ·have hk3:3+k<W.length:=by have:=HNM.out;omega
   have hd3:k<(W.drop 3).length:=by rw[List.length_drop];omega
   have hgd:(W.drop 3)[k]=W[3+k]:=List.getElem_drop ..;have d0:=HCW.out (3+k) hk3;have HLx:=sH (HLw.out _ (List.getElem_mem hk3));have HSt:Hid ((W.drop 3).take (k+1)=(W.drop 3).take k++[W[3+k]]):=by unfold Hid;rw[List.take_succ_eq_append_getElem hd3,hgd]
   have HRx:Hid (RdC W[3+k]):=HRD.out _ (by rw[←HWs.out,←hgd];exact List.getElem_mem hd3);have HBad:Hid (rdO W[3+k]=none→rdT s=none):=fun h=>DN HWs.out (by omega) k hd3 (by rw[hgd];exact h);rw[show off+(3+k)=off+3+k by omega] at d0;obtain⟨word,hword⟩:∃word,word=W[3+k]:=⟨_,rfl⟩;rw[←hword] at d0 HLx HSt HBad HRx;clear hk3 hd3 hgd hword;go_wp2_with fail;refine(HRx.out wr hE hM HLx.out.1 HLx.out.2).mono ?_;rintro e w5 ⟨o,Ao,co,ok,rfl,hRP,hSN,hOW,F5⟩;have hR5:=hR.fr F5;have hT5:=hT.fr F5;cases ok with
   |false=>
    have HRT:=sH (HBad.out (hRP.2 rfl));have hfz:=eR hR5;have hrl:=hR5.lt;obtain⟨e0,e1,e2,e3⟩:=bD hR5;simp only[tx0,List.length_nil] at e0 e1 e2 e3;have FF5:=FF.pure F5;clear own HPs hT hF hE hM hT5 hRP;unfold opL;go_wp2_with fail;generalize hW5:World.setCell _ _ _=w9;obtain⟨R9,G9⟩:=DL hR5 tx0 w9 hW5.symm;clear hW5 e0 e1 e2 e3;generalize hW6:w9.alloc _=w10;have G10:Fr none w9 w10:=hW6▸(Fr.refl none w9).alloc _;have R10:=R9.fr G10;clear hW6;obtain⟨e0,e1,e2,e3⟩:=bD R10;try dsimp only at e0 e1 e2 e3
    refine bodyPost_ret (v:=.tuple #[txV tx0,.bool false]) (by simp[results,Tryz.results69,go_sem,txV,tx0,e0,e1,e2,e3]) rfl ?_;exact⟨tx0,false,rfl,⟨(fun e=>by cases e),fun _=>HRT.out⟩,⟨SlN.nil _ _ _,(fun x hx=>by cases hx)⟩,⟨wi0,wi0,wi0⟩,(FF5.new G9 (Nat.le_refl _)).pure G10⟩
   |true=>
    have HOp:=sH (hRP.1 rfl);have HSN:=sH hSN;have HOW:=sH hOW;unfold opL;go_upto_region 15 with(fail)
    generalize hW6:w5.alloc _=w6;have F6:Fr none w5 w6:=hW6▸(Fr.refl none w5).alloc _;have b9:OpB w6 w5.heap.size o (.slice Ao o.path.length co):=by rw[←hW6];exact aD _ _
    have hT6:=hT5.fr F6;have F56:=F5.pure F6;have hF6:FdB w6 fb fb ((W.take 3).drop 3) b3:=hF.fr F56 (by simp) (fun g e=>by cases e);have hE6:=hE.frs F56 (by simp) (by simp);have hM6:=hM.frs F56 (by simp);have hR6:=hR5.fr F6;have FF6:=FF.pure F56;have HC6:Hid (∀k (hk:k<W.length),w6.cell? ⟨q,off+k,none⟩=some (.string (bL W[k]))):=fun k hk=>F56.keep (HCW.out k hk);have own6:=aR own F56 (by simp);have HSN6:Hid (SlN cB wr.heap.size w6 (.slice Ao o.path.length co) o.path):=HSN.out.fr F6 (fun g e=>by cases e);have hle:wr.heap.size≤w6.heap.size:=F56.size;have HPs6:Hid (∀x ∈ l,OpW x.o∧SlD w6 (Dx (tb+1) w6 (.slice Ap l.length cp)) 2 x.v (flR cB x.o.path)∧∀a ∈ x.o.path,Wi a.iss):=fun x hx=>⟨(HPs.out x hx).1,(HPs.out x hx).2.1.keep (jQ F56 (fun g e=>by cases e)),(HPs.out x hx).2.2⟩;have HOB:Hid (∀g,(Value.slice Ap l.length cp).ownBlock=some g→g<wr.heap.size):=fun g hg=>(own.lt g hg).2;have hts6:tb<w6.heap.size:=by have:=HTS.out;omega
    have hlk:l.length≤1000000:=by have:=HLK.out;omega
    clear hW6 own HPs hT hF hE hM hR hT5 hR5 hRP hSN hOW F5 F6 FF HCW HSN;obtain⟨c0,c1,c2,c3,c4,c5,c6,c7,c8,c9,c10,c11⟩:=b9.cells;obtain⟨e0,e1,e2,e3⟩:=bD hT6;dsimp only at e0 e1 e2 e3;have hfz:=eR hT6;have b9l:=b9.lt;go_wp2_with (at_builtin;refine iW GT rfl _ _ rfl (tb+1) Ap l.length cp _ rfl own6 1 (opL o (.slice Ao o.path.length co)) _ _ rfl (by simp) rfl (sU _ _ _ _) (by omega) (by unfold maxLen;omega) (by omega) ?_;intro A7 c7' w7 own7 F7 nb7;have hT7:=hT6.fr F7 (gF own6 (by omega));have hfz7:=eR hT7;obtain⟨g0,g1,g2,g3⟩:=bD hT7;dsimp only at g0 g1 g2 g3;have hl7:=hT7.lt);have ho7:∀g,(Value.slice Ap l.length cp).ownBlock=some g→tb+1≤g:=fun g hg=>bH own6 g hg;go_roundw
    case rel=>
     generalize hW9:World.setCell _ _ _=w9;have G:Fr (some tb) w7 w9:=hW9▸Fr.set1 w7 ⟨tb,3,none⟩ (.slice A7 (l.length+1) c7');have hT9:TxB w9 tb ⟨n1,n2,n3,l++[⟨o,Ao,co⟩],A7,c7'⟩:=by
      rw[←hW9];have:=aI hT7 3 (.slice A7 (l.length+1) c7');unfold TxB txC TxX.v;simp only[List.length_append,List.length_cons,List.length_nil];exact this
     clear hW9;have hF9:=(hF6.fr F7 (gF own6 (by omega)) (fun g e=>by have:=ho7 g e;omega)).fr G hne' (fun g e=>by rw[←Option.some.inj e];exact htb');have hE9:=(hE6.frs F7 (gF own6 (by have:=HEW.out.1;omega)) (gF own6 (by have:=HEW.out.2.1;omega))).frs G Z3 Z4;have hM9:=(hM6.frs F7 (gF own6 (by have:=HEW.out.2.2;omega))).frs G ZM2;have hR9:=(hR6.fr F7 (gF own6 (by omega))).fr G hnr';have FF9:=(FF6.own F7 (fun g e=>by have:=ho7 g e;omega)).new G htb;have own9:=aR own7 G (fun g hg=>by injection hg with hg;omega);refine⟨k+1,l++[⟨o,Ao,co⟩],A7,c7',by omega,by go_num,?_,?_,hT9,hF9,hE9,hM9,hR9,FF9,?_,?_,?_,?_⟩
     ·unfold Hid;rw[HSt.out,qW _ _ _ _ HAL.out HOp.out,List.map_append];rfl
     ·have:=HLK.out;unfold Hid;rw[List.length_append];simp only[List.length_cons,List.length_nil];omega
     ·exact fun j hj=>G.keep (F7.keep (HC6.out j hj) (fun e=>gF (g:=q) own6 (by omega) e.symm)) hqt'
     ·rw[List.length_append];simp only[List.length_cons,List.length_nil];rw[cV];exact own9
     ·rw[List.length_append];simp only[List.length_cons,List.length_nil];have hdx:∀z:Nat,Dx (tb+1) w6 (.slice Ap l.length cp) z→Dx (tb+1) w9 (.slice A7 (l.length+1) c7') z∧w9.heap[z]?=w6.heap[z]?:=fun z hz=>by
       obtain⟨h1,h2⟩:=sO F7 nb7 z hz;obtain⟨h3,h4⟩:=jQ G (fun g hg=>by injection hg with hg;omega) z h1;exact⟨h3,h4.trans h2⟩
      intro y hy;rcases List.mem_append.1 hy with hy|hy
      ·exact⟨(HPs6.out y hy).1,(HPs6.out y hy).2.1.keep hdx,(HPs6.out y hy).2.2⟩
      rw[List.mem_singleton.1 hy];refine⟨HOW.out,?_,HSN6.out.2⟩;have h1:=HSN6.out.1.keep (yB (B:=tb+1) (by have:=HTS.out;omega) HOB.out);exact h1.keep hdx
     have:=hT9.lt;exact this
    case measure=>simp[intOf];omega
  obtain rfl:k=m:=by omega
  have hF':=hF;obtain⟨_,A1,c1,hb1,_⟩:=hF';have f1:World.cell? wr ⟨fb,1,none⟩=some (.bool b3):=by rw[aA hb1];rfl
  have fl:=hF.lt;clear hb1;obtain⟨e0,e1,e2,e3⟩:=bD hT;dsimp only at e0 e1 e2 e3;obtain⟨g0,g1,g2,g3⟩:=bD hR;simp only[tx0,List.length_nil] at g0 g1 g2 g3;have hfz:=eR hR;have hrl:=hR.lt;have htl:=hT.lt;have HRT:Hid (TrP s ⟨n1,n2,n3,l,Ap,cp⟩ (!b3)):=FU HWs.out (by have:=HNM.out;have:=H4.out;have:=HN.out;omega) HN1.out HN2.out HN3.out (by have:=HAL.out;rwa [List.take_of_length_le (by rw[List.length_drop];have:=HNM.out;omega)] at this) Ap cp;have HN9:Hid (TxN (tb+1) wr ⟨n1,n2,n3,l,Ap,cp⟩):=⟨SlN.of_own (R:=opR) own (fun x hx=>(HPs.out x hx).1),fun x hx=>⟨(HPs.out x hx).2.1.keep Bf,(HPs.out x hx).2.2⟩⟩;clear own HPs;go_upto_region 17 with(fail)
  go_region
  go_wp2_with fail;clear e0 e1 e2 e3 g0 g1 g2 g3;generalize hW5:World.drew _=w9;obtain⟨R9,G9⟩:=GS hR ⟨n1,n2,n3,l,Ap,cp⟩ w9 hW5.symm;clear hW5;obtain⟨e0,e1,e2,e3⟩:=bD R9;try dsimp only at e0 e1 e2 e3
  refine bodyPost_ret (v:=.tuple #[txV ⟨n1,n2,n3,l,Ap,cp⟩,.bool (!b3)]) (by simp[results,Tryz.results69,go_sem,txV,e0,e1,e2,e3]) rfl ?_;exact⟨⟨n1,n2,n3,l,Ap,cp⟩, !b3,rfl,HRT.out,(HN9.out.fr G9 (fun g hg=>by injection hg with hg;omega)).mono (by omega),⟨HW1.out,HW2.out,HW3.out⟩,FF.new G9 (Nat.le_refl _)⟩
def OpS(w:World)(g:Nat)(e:Ending)(w':World):Prop:=
 ∃x:OpX,e= .returned (.agg (opL x.o x.v).toArray)∧vOp x.o=true∧SlN cB w.heap.size w' x.v x.o.path∧OpW x.o∧bP 69 w' g∧Fr (some g) w w'
theorem Iq{t a:Int}(ht:1≤t∧t≤1000)(ha:1≤a∧a≤5000):vOp ⟨1,t,a,0,nat,nat,0,0,0,[]⟩=true:=by
 unfold vOp plO;simp[op0,inR,dW,aX];omega
theorem Ir{t a:Int}{x:Ast}(ht:1≤t∧t≤1000)(ha:1≤a∧a≤5000)(hx:aV x=true):vOp ⟨2,t,a,0,x,nat,0,0,0,[]⟩=true:=by
 unfold vOp plO;simp[op0,inR,dW,aX,hx];omega
theorem Gc{a:Int}{x:Ast}(ha:0≤a∧a≤5000)(hx:aV x=true)(hn:x≠nat):vOp ⟨3,0,a,0,x,nat,0,0,0,[]⟩=true:=by
 unfold vOp plO;simp[op0,inR,dW,aX,hx,hn];omega
theorem Hf{a n d:Int}{x y:Ast}(ha:1≤a∧a≤5000)(hx:aV x=true)(hy:aV y=true)(hn:x≠y)(h1:1≤n∧n≤4)(h2:1≤d∧d≤4):vOp ⟨4,0,a,0,x,y,n,d,0,[]⟩=true:=by
 unfold vOp plO;simp[op0,inR,dW,aX,bX,hx,hy,hn];omega
theorem It{i:Int}(h:1≤i∧i≤1000):vOp ⟨5,0,0,0,nat,nat,0,0,i,[]⟩=true:=by
 unfold vOp plO;simp[op0,inR,dW,aX];omega
theorem Iu{t a l:Int}{x y:Ast}{p:List Ast}(ht:1≤t∧t≤1000)(ha:1≤a∧a≤5000)(hl:1≤l∧l≤5000)(hx:aV x=true)(hy:aV y=true)(hp:p.length≤4)(hq:∀z ∈ p,aV z=true):vOp ⟨6,t,a,l,x,y,0,0,0,p⟩=true:=by
 have hq':p.all aV=true:=List.all_eq_true.2 hq;unfold vOp plO;simp[op0,inR,dW,aX,gI,hx,hy,hp,hq'];omega
theorem Ab{a:Ast}(h:a=nat∨a=usd∨a=eur):aV a=true:=by rcases h with rfl|rfl|rfl<;>decide
theorem eL{n:Int}(h: -1≤n∧n≤1000000):Wi n:=by constructor<;>omega
theorem Hg{p:Prop}(h:p:=by
 clear hxy hc;go_wp2_with fail;generalize hW5:World.setCell _ _ _=w9;obtain⟨R9,G9⟩:=fS hR (⟨4,0,a,0,x,y,m,d,0,[]⟩:Opr) (.slice none ((⟨4,0,a,0,x,y,m,d,0,[]⟩:Opr)).path.length 0) w9 hW5.symm;clear hW5 z0 z1 z2 z3 z4 z5 z6 z7 z8 z9 z10 z11 e0 e1 e2 e3 e4 e5 e6 e7 e8 e9 e10 e11;have S9:=(S8).frs G9 (fun b e=>by injection e with e;omega);have z0:=OpB.free R9 0;have z1:=OpB.free R9 1;have z2:=OpB.free R9 2;have z3:=OpB.free R9 3;have z4:=OpB.free R9 4;have z5:=OpB.free R9 5;have z6:=OpB.free R9 6;have z7:=OpB.free R9 7;have z8:=OpB.free R9 8;have z9:=OpB.free R9 9;have z10:=OpB.free R9 10;have z11:=OpB.free R9 11;obtain⟨e0,e1,e2,e3,e4,e5,e6,e7,e8,e9,e10,e11⟩:=OpB.cells R9;refine bodyPost_ret (v:=.agg (opL (⟨4,0,a,0,x,y,m,d,0,[]⟩:Opr) (.slice none ((⟨4,0,a,0,x,y,m,d,0,[]⟩:Opr)).path.length 0)).toArray) (by simp[results,Tryz.results27,go_sem,opL,e0,e1,e2,e3,e4,e5,e6,e7,e8,e9,e10,e11]) rfl ?_;exact⟨⟨⟨4,0,a,0,x,y,m,d,0,[]⟩,none,0⟩,rfl,Hf (by omega) (Ab HX.out) (Ab HY.out) HXY.out (by omega) (by omega),SlN.nil _ _ _,⟨wi4,wi0,eL (n:=a) (by omega),wi0,qB.wi HX.out,qB.wi HY.out,eL (n:=m) (by omega),eL (n:=d) (by omega),wi0⟩,S9,FX.new G9 (Nat.le_refl _)⟩):p:=h
theorem Ad(g:Nat)(w:World)(h:bP 69 w g):
  Calls Tryz.prog 27 #[.pointer (some ⟨g,0,none⟩)] w (OpS w g):=by
 have hgl:=h.lt;go_enter Tryz.func27,Tryz.ntmps27;go_upto_region 1 with(fail)
 generalize hW:w.alloc _=w1;have F1:Fr none w w1:=hW▸(Fr.refl none w).alloc _;have hR:OpB w1 w.heap.size op0 (.slice none 0 0):=by rw[←hW];exact aD _ _
 clear hW;have S1:=h.fr F1;have hs1:=F1.size;clear h;have G2:=(Fr.refl none w1).alloc (.cells #[.int .i64 1,.int .i64 3,.int .i64 10,.int .i64 100,.int .i64 700] 3);have hlit:SlI (w1.alloc (.cells #[.int .i64 1,.int .i64 3,.int .i64 10,.int .i64 100,.int .i64 700] 3)) (some g) (.slice (some ⟨w1.heap.size,0,none⟩) 5 5) [1,3,10,100,700]:=
  ⟨SlD.lit_dm #[.int .i64 1,.int .i64 3,.int .i64 10,.int .i64 100,.int .i64 700] 3 5 1 rfl (by unfold maxLen;omega) (by simp;omega) (Fr.refl _ _),by intro x hx;simp at hx;constructor<;>omega⟩
 go_wp2_with fail;refine(cO _ [1,3,10,100,700] g _ hlit (by simp) (by simp) (S1.fr G2)).mono ?_;rintro e w2 ⟨a,rfl,hx,S2,F2⟩;have ha:1≤a∧a≤700:=by simp at hx;omega
 have F12:Fr (some g) w1 w2:=G2.mono.same F2;have hR:=hR.fr F12 (by intro e;injection e with e;omega);have FX:Fr (some g) w w2:=F1.mono.same F12;clear hlit hx G2 F2 F12 F1 S1;go_wp2_with fail;refine(cA 1 6 g w2 (by omega) (by omega) (by omega) (by omega) S2).mono ?_;rintro e w3 ⟨n,rfl,n1,n2,S3,F3⟩;have n2:n≤6:=by omega
 have hR:=hR.fr F3 (by intro e;injection e with e;omega);have FX:=FX.same F3;have hs3:=FX.size;clear S2 F3;have hn:n=1∨n=2∨n=3∨n=4∨n=5∨n=6:=by omega
 clear n1 n2;rcases hn with rfl|rfl|rfl|rfl|rfl|rfl
 ·go_wp2_with fail;refine(cA 1 7 g w3 (by omega) (by omega) (by omega) (by omega) S3).mono ?_;rintro e w4 ⟨t,rfl,t1,t2,S4,F4⟩;have t2:t≤7:=by omega
  have hR:=hR.fr F4 (by intro e;injection e with e;omega);have FX:=FX.same F4;have el:=hR.lt;clear S3 F4;have z0:=OpB.free hR 0;have z1:=OpB.free hR 1;have z2:=OpB.free hR 2;have z3:=OpB.free hR 3;have z4:=OpB.free hR 4;have z5:=OpB.free hR 5;have z6:=OpB.free hR 6;have z7:=OpB.free hR 7;have z8:=OpB.free hR 8;have z9:=OpB.free hR 9;have z10:=OpB.free hR 10;have z11:=OpB.free hR 11;obtain⟨e0,e1,e2,e3,e4,e5,e6,e7,e8,e9,e10,e11⟩:=OpB.cells hR;go_wp2_with fail;generalize hW5:World.setCell _ _ _=w9;obtain⟨R9,G9⟩:=fS hR (⟨1,t,a,0,nat,nat,0,0,0,[]⟩:Opr) (.slice none ((⟨1,t,a,0,nat,nat,0,0,0,[]⟩:Opr)).path.length 0) w9 hW5.symm;clear hW5 z0 z1 z2 z3 z4 z5 z6 z7 z8 z9 z10 z11 e0 e1 e2 e3 e4 e5 e6 e7 e8 e9 e10 e11;have S9:=(S4).frs G9 (fun b e=>by injection e with e;omega);have z0:=OpB.free R9 0;have z1:=OpB.free R9 1;have z2:=OpB.free R9 2;have z3:=OpB.free R9 3;have z4:=OpB.free R9 4;have z5:=OpB.free R9 5;have z6:=OpB.free R9 6;have z7:=OpB.free R9 7;have z8:=OpB.free R9 8;have z9:=OpB.free R9 9;have z10:=OpB.free R9 10;have z11:=OpB.free R9 11;obtain⟨e0,e1,e2,e3,e4,e5,e6,e7,e8,e9,e10,e11⟩:=OpB.cells R9;refine bodyPost_ret (v:=.agg (opL (⟨1,t,a,0,nat,nat,0,0,0,[]⟩:Opr) (.slice none ((⟨1,t,a,0,nat,nat,0,0,0,[]⟩:Opr)).path.length 0)).toArray) (by simp[results,Tryz.results27,go_sem,opL,e0,e1,e2,e3,e4,e5,e6,e7,e8,e9,e10,e11]) rfl ?_;exact⟨⟨⟨1,t,a,0,nat,nat,0,0,0,[]⟩,none,0⟩,rfl,Iq (by omega) (by omega),SlN.nil _ _ _,⟨wi1,eL (n:=t) (by omega),eL (n:=a) (by omega),wi0,wi0,wi0,wi0,wi0,wi0⟩,S9,FX.new G9 (Nat.le_refl _)⟩
 ·go_wp2_with fail;refine(cA 1 6 g w3 (by omega) (by omega) (by omega) (by omega) S3).mono ?_;rintro e w4 ⟨t,rfl,t1,t2,S4,F4⟩;have t2:t≤6:=by omega
  have hR:=hR.fr F4 (by intro e;injection e with e;omega);have FX:=FX.same F4;clear S3 F4;go_wp2_with fail;refine(dX g w4 S4).mono ?_;rintro e w5 ⟨x,rfl,hx,S5,F5⟩;have hR:=hR.fr F5 (by intro e;injection e with e;omega);have FX:=FX.same F5;have HX:=sH hx;have el:=hR.lt;clear S4 F5 hx;have z0:=OpB.free hR 0;have z1:=OpB.free hR 1;have z2:=OpB.free hR 2;have z3:=OpB.free hR 3;have z4:=OpB.free hR 4;have z5:=OpB.free hR 5;have z6:=OpB.free hR 6;have z7:=OpB.free hR 7;have z8:=OpB.free hR 8;have z9:=OpB.free hR 9;have z10:=OpB.free hR 10;have z11:=OpB.free hR 11;obtain⟨e0,e1,e2,e3,e4,e5,e6,e7,e8,e9,e10,e11⟩:=OpB.cells hR;go_wp2_with fail;generalize hW5:World.setCell _ _ _=w9;obtain⟨R9,G9⟩:=fS hR (⟨2,t,a,0,x,nat,0,0,0,[]⟩:Opr) (.slice none ((⟨2,t,a,0,x,nat,0,0,0,[]⟩:Opr)).path.length 0) w9 hW5.symm;clear hW5 z0 z1 z2 z3 z4 z5 z6 z7 z8 z9 z10 z11 e0 e1 e2 e3 e4 e5 e6 e7 e8 e9 e10 e11;have S9:=(S5).frs G9 (fun b e=>by injection e with e;omega);have z0:=OpB.free R9 0;have z1:=OpB.free R9 1;have z2:=OpB.free R9 2;have z3:=OpB.free R9 3;have z4:=OpB.free R9 4;have z5:=OpB.free R9 5;have z6:=OpB.free R9 6;have z7:=OpB.free R9 7;have z8:=OpB.free R9 8;have z9:=OpB.free R9 9;have z10:=OpB.free R9 10;have z11:=OpB.free R9 11;obtain⟨e0,e1,e2,e3,e4,e5,e6,e7,e8,e9,e10,e11⟩:=OpB.cells R9;refine bodyPost_ret (v:=.agg (opL (⟨2,t,a,0,x,nat,0,0,0,[]⟩:Opr) (.slice none ((⟨2,t,a,0,x,nat,0,0,0,[]⟩:Opr)).path.length 0)).toArray) (by simp[results,Tryz.results27,go_sem,opL,e0,e1,e2,e3,e4,e5,e6,e7,e8,e9,e10,e11]) rfl ?_;exact⟨⟨⟨2,t,a,0,x,nat,0,0,0,[]⟩,none,0⟩,rfl,Ir (by omega) (by omega) (Ab HX.out),SlN.nil _ _ _,⟨wi2,eL (n:=t) (by omega),eL (n:=a) (by omega),wi0,qB.wi HX.out,wi0,wi0,wi0,wi0⟩,S9,FX.new G9 (Nat.le_refl _)⟩
 ·have G4:=(Fr.refl none w3).alloc (.cells #[.int .i64 0,.int .i64 a,.int .i64 1000] 3);have hlit:SlI (w3.alloc (.cells #[.int .i64 0,.int .i64 a,.int .i64 1000] 3)) (some g) (.slice (some ⟨w3.heap.size,0,none⟩) 3 3) [0,a,1000]:=
   ⟨SlD.lit_dm #[.int .i64 0,.int .i64 a,.int .i64 1000] 3 3 1 rfl (by unfold maxLen;omega) (by simp;omega) (Fr.refl _ _),by intro x hx;simp at hx;constructor<;>omega⟩
  go_wp2_with fail;refine(cO _ [0,a,1000] g _ hlit (by simp) (by simp) (S3.fr G4)).mono ?_;rintro e w4 ⟨m,rfl,hx,S4,F4⟩;have hm:0≤m∧m≤1000:=by simp at hx;omega
  have F34:Fr (some g) w3 w4:=G4.mono.same F4;have hR:=hR.fr F34 (by intro e;injection e with e;omega);have FX:=FX.same F34;clear hlit hx G4 F4 F34 S3;go_wp2_with fail;refine(lP w4).mono ?_;rintro e w5 ⟨rfl,F5⟩;go_wp2_with fail;refine(nY w5).mono ?_;rintro e w6 ⟨rfl,F6⟩;have F7:=(Fr.refl none w6).alloc (.cells #[.string (bL usd.code),.int .i64 usd.iss,.string (bL eur.code),.int .i64 eur.iss,.string ⟨#[88,65,85]⟩,.int .i64 9] 46);have b4:=aD w6 (.cells #[.string (bL usd.code),.int .i64 usd.iss,.string (bL eur.code),.int .i64 eur.iss,.string ⟨#[88,65,85]⟩,.int .i64 9] 46);have F47:=(F5.pure F6).pure F7;have hs6:g<w6.heap.size:=Nat.lt_of_lt_of_le S4.lt (F5.pure F6).size;go_wp2_with fail;refine(cN 3 g _ (by omega) (S4.fr F47)).mono ?_;rintro e w8 ⟨x,rfl,x1,x2,S8,F8⟩;have b4:=aF b4 F8 (by intro e;injection e with e;omega);have hR:=(hR.fr F47).fr F8 (by intro e;injection e with e;omega);have FX:=(FX.pure F47).same F8;have el:=hR.lt;have l4:=aC b4;have k0:w8.cell? ⟨w6.heap.size,0,none⟩=some (.string (bL usd.code)):=by rw[aA b4];rfl
  have k1:w8.cell? ⟨w6.heap.size,1,none⟩=some (.int .i64 usd.iss):=by rw[aA b4];rfl
  have k2:w8.cell? ⟨w6.heap.size,2,none⟩=some (.string (bL eur.code)):=by rw[aA b4];rfl
  have k3:w8.cell? ⟨w6.heap.size,3,none⟩=some (.int .i64 eur.iss):=by rw[aA b4];rfl
  have k4:w8.cell? ⟨w6.heap.size,4,none⟩=some (.string ⟨#[88,65,85]⟩):=by rw[aA b4];rfl
  have k5:w8.cell? ⟨w6.heap.size,5,none⟩=some (.int .i64 9):=by rw[aA b4];rfl
  clear F5 F6 F7 F47 F8 S4 b4;have hx:x=0∨x=1∨x=2:=by omega
  clear x1 x2;have z0:=OpB.free hR 0;have z1:=OpB.free hR 1;have z2:=OpB.free hR 2;have z3:=OpB.free hR 3;have z4:=OpB.free hR 4;have z5:=OpB.free hR 5;have z6:=OpB.free hR 6;have z7:=OpB.free hR 7;have z8:=OpB.free hR 8;have z9:=OpB.free hR 9;have z10:=OpB.free hR 10;have z11:=OpB.free hR 11;obtain⟨e0,e1,e2,e3,e4,e5,e6,e7,e8,e9,e10,e11⟩:=OpB.cells hR;rcases hx with rfl|rfl|rfl
  ·go_wp2_with fail;generalize hW5:World.setCell _ _ _=w9;obtain⟨R9,G9⟩:=fS hR (⟨3,0,m,0,usd,nat,0,0,0,[]⟩:Opr) (.slice none ((⟨3,0,m,0,usd,nat,0,0,0,[]⟩:Opr)).path.length 0) w9 hW5.symm;clear hW5 z0 z1 z2 z3 z4 z5 z6 z7 z8 z9 z10 z11 e0 e1 e2 e3 e4 e5 e6 e7 e8 e9 e10 e11;have S9:=(S8).frs G9 (fun b e=>by injection e with e;omega);have z0:=OpB.free R9 0;have z1:=OpB.free R9 1;have z2:=OpB.free R9 2;have z3:=OpB.free R9 3;have z4:=OpB.free R9 4;have z5:=OpB.free R9 5;have z6:=OpB.free R9 6;have z7:=OpB.free R9 7;have z8:=OpB.free R9 8;have z9:=OpB.free R9 9;have z10:=OpB.free R9 10;have z11:=OpB.free R9 11;obtain⟨e0,e1,e2,e3,e4,e5,e6,e7,e8,e9,e10,e11⟩:=OpB.cells R9;refine bodyPost_ret (v:=.agg (opL (⟨3,0,m,0,usd,nat,0,0,0,[]⟩:Opr) (.slice none ((⟨3,0,m,0,usd,nat,0,0,0,[]⟩:Opr)).path.length 0)).toArray) (by simp[results,Tryz.results27,go_sem,opL,e0,e1,e2,e3,e4,e5,e6,e7,e8,e9,e10,e11]) rfl ?_;exact⟨⟨⟨3,0,m,0,usd,nat,0,0,0,[]⟩,none,0⟩,rfl,Gc (by omega) (by decide) (by decide),SlN.nil _ _ _,⟨wi3,wi0,eL (n:=m) (by omega),wi0,eL (n:=usd.iss) (by decide),wi0,wi0,wi0,wi0⟩,S9,FX.new G9 (Nat.le_refl _)⟩
  ·go_wp2_with fail;generalize hW5:World.setCell _ _ _=w9;obtain⟨R9,G9⟩:=fS hR (⟨3,0,m,0,eur,nat,0,0,0,[]⟩:Opr) (.slice none ((⟨3,0,m,0,eur,nat,0,0,0,[]⟩:Opr)).path.length 0) w9 hW5.symm;clear hW5 z0 z1 z2 z3 z4 z5 z6 z7 z8 z9 z10 z11 e0 e1 e2 e3 e4 e5 e6 e7 e8 e9 e10 e11;have S9:=(S8).frs G9 (fun b e=>by injection e with e;omega);have z0:=OpB.free R9 0;have z1:=OpB.free R9 1;have z2:=OpB.free R9 2;have z3:=OpB.free R9 3;have z4:=OpB.free R9 4;have z5:=OpB.free R9 5;have z6:=OpB.free R9 6;have z7:=OpB.free R9 7;have z8:=OpB.free R9 8;have z9:=OpB.free R9 9;have z10:=OpB.free R9 10;have z11:=OpB.free R9 11;obtain⟨e0,e1,e2,e3,e4,e5,e6,e7,e8,e9,e10,e11⟩:=OpB.cells R9;refine bodyPost_ret (v:=.agg (opL (⟨3,0,m,0,eur,nat,0,0,0,[]⟩:Opr) (.slice none ((⟨3,0,m,0,eur,nat,0,0,0,[]⟩:Opr)).path.length 0)).toArray) (by simp[results,Tryz.results27,go_sem,opL,e0,e1,e2,e3,e4,e5,e6,e7,e8,e9,e10,e11]) rfl ?_;exact⟨⟨⟨3,0,m,0,eur,nat,0,0,0,[]⟩,none,0⟩,rfl,Gc (by omega) (by decide) (by decide),SlN.nil _ _ _,⟨wi3,wi0,eL (n:=m) (by omega),wi0,eL (n:=eur.iss) (by decide),wi0,wi0,wi0,wi0⟩,S9,FX.new G9 (Nat.le_refl _)⟩
  go_wp2_with fail;generalize hW5:World.setCell _ _ _=w9;obtain⟨R9,G9⟩:=fS hR (⟨3,0,m,0,(⟨[88,65,85],9⟩:Ast),nat,0,0,0,[]⟩:Opr) (.slice none ((⟨3,0,m,0,(⟨[88,65,85],9⟩:Ast),nat,0,0,0,[]⟩:Opr)).path.length 0) w9 hW5.symm;clear hW5 z0 z1 z2 z3 z4 z5 z6 z7 z8 z9 z10 z11 e0 e1 e2 e3 e4 e5 e6 e7 e8 e9 e10 e11;have S9:=(S8).frs G9 (fun b e=>by injection e with e;omega);have z0:=OpB.free R9 0;have z1:=OpB.free R9 1;have z2:=OpB.free R9 2;have z3:=OpB.free R9 3;have z4:=OpB.free R9 4;have z5:=OpB.free R9 5;have z6:=OpB.free R9 6;have z7:=OpB.free R9 7;have z8:=OpB.free R9 8;have z9:=OpB.free R9 9;have z10:=OpB.free R9 10;have z11:=OpB.free R9 11;obtain⟨e0,e1,e2,e3,e4,e5,e6,e7,e8,e9,e10,e11⟩:=OpB.cells R9;refine bodyPost_ret (v:=.agg (opL (⟨3,0,m,0,(⟨[88,65,85],9⟩:Ast),nat,0,0,0,[]⟩:Opr) (.slice none ((⟨3,0,m,0,(⟨[88,65,85],9⟩:Ast),nat,0,0,0,[]⟩:Opr)).path.length 0)).toArray) (by simp[results,Tryz.results27,go_sem,opL,e0,e1,e2,e3,e4,e5,e6,e7,e8,e9,e10,e11]) rfl ?_;exact⟨⟨⟨3,0,m,0,(⟨[88,65,85],9⟩:Ast),nat,0,0,0,[]⟩,none,0⟩,rfl,Gc (by omega) (by decide) (by decide),SlN.nil _ _ _,⟨wi3,wi0,eL (n:=m) (by omega),wi0,eL (n:=(⟨[88,65,85],9⟩:Ast).iss) (by decide),wi0,wi0,wi0,wi0⟩,S9,FX.new G9 (Nat.le_refl _)⟩
 ·go_wp2_with fail;refine(dX g w3 S3).mono ?_;rintro e w4 ⟨x,rfl,hx,S4,F4⟩;go_wp2_with fail;refine(dX g w4 S4).mono ?_;rintro e w5 ⟨y,rfl,hy,S5,F5⟩;go_wp2_with fail;refine(cA 1 4 g w5 (by omega) (by omega) (by omega) (by omega) S5).mono ?_;rintro e w6 ⟨m,rfl,m1,m2,S6,F6⟩;go_wp2_with fail;refine(cA 1 4 g w6 (by omega) (by omega) (by omega) (by omega) S6).mono ?_;rintro e w7 ⟨d,rfl,d1,d2,S7,F7⟩;have m2:m≤4:=by omega
  have d2:d≤4:=by omega
  have F37:=((F4.same F5).same F6).same F7;have hR:=hR.fr F37 (by intro e;injection e with e;omega);have FX:=FX.same F37;clear S3 S4 S5 S6 F4 F5 F6 F7 F37;go_upto_region 11 with(fail)
  obtain⟨ob,hob⟩:∃ob,ob=w7.heap.size:=⟨_,rfl⟩;rw[←hob];generalize hW:w7.alloc _=w8;have F8:Fr none w7 w8:=hW▸(Fr.refl none w7).alloc _;have hO:OpB w8 ob ⟨4,0,a,0,x,y,m,d,0,[]⟩ (.slice none 0 0):=by rw[←hW,hob];exact aD _ _
  have hlo:w.heap.size<ob:=by have:=hR.lt;omega
  clear hW hob;have S8:=S7.fr F8;have hR:=hR.fr F8;have FX:=FX.pure F8;have HX:=sH hx;have HY:=sH hy;clear S7 F8 hx hy;obtain⟨c0,c1,c2,c3,c4,c5,c6,c7,c8,c9,c10,c11⟩:=OpB.cells hO;dsimp only at c0 c1 c2 c3 c4 c5 c6 c7 c8 c9 c10 c11;have hfo:=OpB.frees hO;have ol:=hO.lt;have el:=hR.lt;by_cases hxy:x=y
  ·subst hxy;go_wp2_with fail;refine(lP w8).mono ?_;rintro e w9 ⟨rfl,F9⟩;have hO:=hO.fr F9;have hR:=hR.fr F9;have FX:=FX.pure F9;have S9:=S8.fr F9;clear c0 c1 c2 c3 c4 c5 c6 c7 c8 c9 c10 c11 hfo ol el F9 S8;obtain⟨c0,c1,c2,c3,c4,c5,c6,c7,c8,c9,c10,c11⟩:=OpB.cells hO;dsimp only at c0 c1 c2 c3 c4 c5 c6 c7 c8 c9 c10 c11;have hfo:=OpB.frees hO;have ol:=hO.lt;go_upto_region 13 with(fail)
   generalize hW:World.setCell _ _ _=w10;have hO2:=OpB.oth (OpB.ast hO nat) usd;have G10:Fr (some ob) w9 w10:=by
    rw[←hW];have F0:Fr (some ob) w9 _:=Fr.set1 w9 ⟨ob,4,none⟩ (.string (bL nat.code));have F1:Fr (some ob) w9 _:=F0.setRow (p:=⟨ob,5,none⟩) rfl (.int .i64 nat.iss);have F2:Fr (some ob) w9 _:=F1.setRow (p:=⟨ob,6,none⟩) rfl (.string (bL usd.code));exact F2.setRow (p:=⟨ob,7,none⟩) rfl (.int .i64 usd.iss)
   have hO3:OpB w10 ob ⟨4,0,a,0,nat,usd,m,d,0,[]⟩ (.slice none 0 0):=by rw[←hW];exact hO2
   have hR:=hR.fr G10 (by intro e;injection e with e;omega);have FX:=FX.new G10 (by omega);have S10:=S9.frs G10 (fun b e=>by injection e with e;omega);clear hW hO2 G10 c0 c1 c2 c3 c4 c5 c6 c7 c8 c9 c10 c11 hfo ol S9 hO;obtain⟨c0,c1,c2,c3,c4,c5,c6,c7,c8,c9,c10,c11⟩:=OpB.cells hO3;dsimp only at c0 c1 c2 c3 c4 c5 c6 c7 c8 c9 c10 c11;have ol:=hO3.lt;have el:=hR.lt;have z0:=OpB.free hR 0;have z1:=OpB.free hR 1;have z2:=OpB.free hR 2;have z3:=OpB.free hR 3;have z4:=OpB.free hR 4;have z5:=OpB.free hR 5;have z6:=OpB.free hR 6;have z7:=OpB.free hR 7;have z8:=OpB.free hR 8;have z9:=OpB.free hR 9;have z10:=OpB.free hR 10;have z11:=OpB.free hR 11;obtain⟨e0,e1,e2,e3,e4,e5,e6,e7,e8,e9,e10,e11⟩:=OpB.cells hR;go_wp2_with fail;generalize hW5:World.setCell _ _ _=w9;obtain⟨R9,G9⟩:=fS hR (⟨4,0,a,0,nat,usd,m,d,0,[]⟩:Opr) (.slice none ((⟨4,0,a,0,nat,usd,m,d,0,[]⟩:Opr)).path.length 0) w9 hW5.symm;clear hW5 z0 z1 z2 z3 z4 z5 z6 z7 z8 z9 z10 z11 e0 e1 e2 e3 e4 e5 e6 e7 e8 e9 e10 e11;have S9:=(S10).frs G9 (fun b e=>by injection e with e;omega);have z0:=OpB.free R9 0;have z1:=OpB.free R9 1;have z2:=OpB.free R9 2;have z3:=OpB.free R9 3;have z4:=OpB.free R9 4;have z5:=OpB.free R9 5;have z6:=OpB.free R9 6;have z7:=OpB.free R9 7;have z8:=OpB.free R9 8;have z9:=OpB.free R9 9;have z10:=OpB.free R9 10;have z11:=OpB.free R9 11;obtain⟨e0,e1,e2,e3,e4,e5,e6,e7,e8,e9,e10,e11⟩:=OpB.cells R9;refine bodyPost_ret (v:=.agg (opL (⟨4,0,a,0,nat,usd,m,d,0,[]⟩:Opr) (.slice none ((⟨4,0,a,0,nat,usd,m,d,0,[]⟩:Opr)).path.length 0)).toArray) (by simp[results,Tryz.results27,go_sem,opL,e0,e1,e2,e3,e4,e5,e6,e7,e8,e9,e10,e11]) rfl ?_;exact⟨⟨⟨4,0,a,0,nat,usd,m,d,0,[]⟩,none,0⟩,rfl,Hf (by omega) (by decide) (by decide) (by decide) (by omega) (by omega),SlN.nil _ _ _,⟨wi4,wi0,eL (n:=a) (by omega),wi0,eL (n:=nat.iss) (by decide),eL (n:=usd.iss) (by decide),eL (n:=m) (by omega),eL (n:=d) (by omega),wi0⟩,S9,FX.new G9 (Nat.le_refl _)⟩
  have HXY:=sH hxy;have z0:=OpB.free hR 0;have z1:=OpB.free hR 1;have z2:=OpB.free hR 2;have z3:=OpB.free hR 3;have z4:=OpB.free hR 4;have z5:=OpB.free hR 5;have z6:=OpB.free hR 6;have z7:=OpB.free hR 7;have z8:=OpB.free hR 8;have z9:=OpB.free hR 9;have z10:=OpB.free hR 10;have z11:=OpB.free hR 11;obtain⟨e0,e1,e2,e3,e4,e5,e6,e7,e8,e9,e10,e11⟩:=OpB.cells hR;by_cases hc:x.code=y.code
  ·have hq1:(bL x.code).toList=(bL y.code).toList:=by rw[hc]
   have hq2:¬x.iss=y.iss:=fun e=>hxy (by cases x;cases y;simp at hc e;rw[hc,e]);exact Hg
  have hq1:¬(bL x.code).toList=(bL y.code).toList:=by rw[bQ,bQ];exact hc
  exact Hg
 ·go_wp2_with fail;refine(cA 1 6 g w3 (by omega) (by omega) (by omega) (by omega) S3).mono ?_;rintro e w4 ⟨t,rfl,t1,t2,S4,F4⟩;have t2:t≤6:=by omega
  have hR:=hR.fr F4 (by intro e;injection e with e;omega);have FX:=FX.same F4;have el:=hR.lt;clear S3 F4;have z0:=OpB.free hR 0;have z1:=OpB.free hR 1;have z2:=OpB.free hR 2;have z3:=OpB.free hR 3;have z4:=OpB.free hR 4;have z5:=OpB.free hR 5;have z6:=OpB.free hR 6;have z7:=OpB.free hR 7;have z8:=OpB.free hR 8;have z9:=OpB.free hR 9;have z10:=OpB.free hR 10;have z11:=OpB.free hR 11;obtain⟨e0,e1,e2,e3,e4,e5,e6,e7,e8,e9,e10,e11⟩:=OpB.cells hR;go_wp2_with fail;generalize hW5:World.setCell _ _ _=w9;obtain⟨R9,G9⟩:=fS hR (⟨5,0,0,0,nat,nat,0,0,t,[]⟩:Opr) (.slice none ((⟨5,0,0,0,nat,nat,0,0,t,[]⟩:Opr)).path.length 0) w9 hW5.symm;clear hW5 z0 z1 z2 z3 z4 z5 z6 z7 z8 z9 z10 z11 e0 e1 e2 e3 e4 e5 e6 e7 e8 e9 e10 e11;have S9:=(S4).frs G9 (fun b e=>by injection e with e;omega);have z0:=OpB.free R9 0;have z1:=OpB.free R9 1;have z2:=OpB.free R9 2;have z3:=OpB.free R9 3;have z4:=OpB.free R9 4;have z5:=OpB.free R9 5;have z6:=OpB.free R9 6;have z7:=OpB.free R9 7;have z8:=OpB.free R9 8;have z9:=OpB.free R9 9;have z10:=OpB.free R9 10;have z11:=OpB.free R9 11;obtain⟨e0,e1,e2,e3,e4,e5,e6,e7,e8,e9,e10,e11⟩:=OpB.cells R9;refine bodyPost_ret (v:=.agg (opL (⟨5,0,0,0,nat,nat,0,0,t,[]⟩:Opr) (.slice none ((⟨5,0,0,0,nat,nat,0,0,t,[]⟩:Opr)).path.length 0)).toArray) (by simp[results,Tryz.results27,go_sem,opL,e0,e1,e2,e3,e4,e5,e6,e7,e8,e9,e10,e11]) rfl ?_;exact⟨⟨⟨5,0,0,0,nat,nat,0,0,t,[]⟩,none,0⟩,rfl,It (by omega),SlN.nil _ _ _,⟨wi5,wi0,wi0,wi0,wi0,wi0,wi0,wi0,eL (n:=t) (by omega)⟩,S9,FX.new G9 (Nat.le_refl _)⟩
 go_wp2_with fail;refine(cA 1 5 g w3 (by omega) (by omega) (by omega) (by omega) S3).mono ?_;rintro e w4 ⟨t,rfl,t1,t2,S4,F4⟩;have t2:t≤5:=by omega
 have G5:=(Fr.refl none w4).alloc (.cells #[.int .i64 1,.int .i64 50,.int .i64 5000] 3);have hg4:=S4.lt;have hlit:SlI (w4.alloc (.cells #[.int .i64 1,.int .i64 50,.int .i64 5000] 3)) (some g) (.slice (some ⟨w4.heap.size,0,none⟩) 3 3) [1,50,5000]:=
  ⟨SlD.lit_dm #[.int .i64 1,.int .i64 50,.int .i64 5000] 3 3 1 rfl (by unfold maxLen;omega) (by simp;omega) (Fr.refl _ _),by intro x hx;simp at hx;constructor<;>omega⟩
 go_wp2_with fail;refine(cO _ [1,50,5000] g _ hlit (by simp) (by simp) (S4.fr G5)).mono ?_;rintro e w5 ⟨m,rfl,hm,S5,F5⟩;have hm:1≤m∧m≤5000:=by simp at hm;omega
 go_wp2_with fail;refine(dX g w5 S5).mono ?_;rintro e w6 ⟨x,rfl,hx,S6,F6⟩;go_wp2_with fail;refine(dX g w6 S6).mono ?_;rintro e w7 ⟨y,rfl,hy,S7,F7⟩;have F37:=((F4.same (G5.mono.same F5)).same F6).same F7;have hR:=hR.fr F37 (by intro e;injection e with e;omega);have FX:=FX.same F37;clear S3 S4 S5 S6 F4 F5 F6 F7 F37 hlit G5;go_upto_region 17 with(fail)
 obtain⟨ob,hob⟩:∃ob,ob=w7.heap.size:=⟨_,rfl⟩;rw[←hob];generalize hW:w7.alloc _=w8;have F8:Fr none w7 w8:=hW▸(Fr.refl none w7).alloc _;have hO:OpB w8 ob ⟨6,t,a,m,x,y,0,0,0,[]⟩ (.slice none 0 0):=by rw[←hW,hob];exact aD _ _
 have hlo:w.heap.size<ob:=by have:=hR.lt;omega
 clear hW hob;have S8:=S7.fr F8;have hR:=hR.fr F8;have FX:=FX.pure F8;have HX:=sH hx;have HY:=sH hy;clear S7 F8 hx hy;go_wp2_with fail;refine(cN 3 g w8 (by omega) S8).mono ?_;rintro e w9 ⟨j0,rfl,j1,j2,S9,F9⟩;have j2:j0≤2:=by omega
 have hO:=hO.fr F9 (by intro e;injection e with e;omega);have hR:=hR.fr F9 (by intro e;injection e with e;omega);have FX:=FX.same F9;have hOl:=hO.lt;clear S8 F9;go_wp2_with fail;go_loopw [6] (fun s6 wr=>∃(j:Int) (l:List Ast) (Ap:Option Addr) (cp:Nat),s6= .int .i64 j∧0≤j∧j+(l.length:Int)≤2∧Hid (∀z ∈ l,z=nat∨z=usd∨z=eur)∧OpB wr ob ⟨6,t,a,m,x,y,0,0,0,l⟩ (.slice Ap l.length cp)∧bP 69 wr g∧OpB wr w.heap.size op0 (.slice none 0 0)∧Fr (some g) w wr∧wr.ownsRow (ob+1) 46 2 (.slice Ap l.length cp) l.length (flR cB l)∧ob<wr.heap.size) (fun s6 _=>(intOf s6).toNat)
 case atStart=>exact⟨j0,[],none,0,rfl,j1,by simpa using j2,(fun z hz=>by cases hz),hO,S9,hR,FX,World.ownsRow_nil _ _ _ _,hOl⟩
 case round=>
  clear hO hR FX S9 hOl;obtain⟨j,l,Ap,cp,rfl,hj0,hj2,HL,hO,hS,hR,FX,own,hOl⟩:=hrel;by_cases hlt:0<j
  ·have hm1:IntKind.i64.wrap (j - 1)=j - 1:=by rw[IntKind.wrap_i64];omega
   have hl2:l.length≤2:=by omega
   have hcp:=jA own;go_upto_region 20 with(fail)
   have HO0:=sH hO;refine cF (fun W=>OpB W ob ⟨6,t,a,m,x,y,0,0,0,l⟩ (.slice Ap l.length cp)) (fun W=>OpB W ob ⟨6,t,a,m,x,y,0,0,0,l⟩ (.slice Ap l.length cp)∧bP 69 W g∧OpB W w.heap.size op0 (.slice none 0 0)∧Fr (some g) w W∧W.ownsRow (ob+1) 46 2 (.slice Ap l.length cp) l.length (flR cB l)∧ob<W.heap.size) [3,4,5,7] [0,1,2,3,4,5,6,7] 93 [none,some 91,some 90,some 89,some 88,some 87,some 86,some 85] (by kernel_rfl) (by kernel_rfl) (by kernel_rfl) (Nat.le_refl _) (show(fun W=>OpB W ob ⟨6,t,a,m,x,y,0,0,0,l⟩ (.slice Ap l.length cp)∧bP 69 W g∧OpB W w.heap.size op0 (.slice none 0 0)∧Fr (some g) w W∧W.ownsRow (ob+1) 46 2 (.slice Ap l.length cp) l.length (flR cB l)∧ob<W.heap.size) _ from(by exact⟨HO0.out,hS.drew,uT hR,FX.drew,own.drew,hOl⟩)) (fun W h=>h.1) ?_;clear hO hS hR FX own HO0 hOl;refine FxP.p [] [5] ?_;have HF1:=sH (fun(w:World) (hS:((fun W=>OpB W ob ⟨6,t,a,m,x,y,0,0,0,l⟩ (.slice Ap l.length cp))) w)=>OpB.cells hS);refine FxP.q HF1.out [(0,0,85)] [] ?_;refine FxP.p [] [0] ?_;refine FxP.call (f:=?_) (args:=?_) (fun v W=>OpB W ob ⟨6,t,a,m,x,y,0,0,0,l⟩ (.slice Ap l.length cp)∧∃z:Ast,v= .agg #[.string (bL z.code),.int .i64 z.iss]∧Hid (z=nat∨z=usd∨z=eur)∧bP 69 W g∧OpB W w.heap.size op0 (.slice none 0 0)∧Fr (some g) w W∧W.ownsRow (ob+1) 46 2 (.slice Ap l.length cp) l.length (flR cB l)∧ob<W.heap.size) rfl rfl rfl (by kernel_rfl) (fun ev w hS E=>?_) (fun w hS=>?_) (fun v W h=>h.1) ?_;rotate_left 2
   ·obtain⟨t87,ec,ef,eg⟩:=E.get [(0,2,87)] [] (by kernel_rfl);clear E;simp only[aG] at t87;go_simp;first|(refine And.intro ?_ ?_<;>with_reducible rfl)|with_reducible rfl
   ·refine(dX g w hS.2.1).mono ?_;rintro e w2 ⟨z,rfl,hz,S2,F2⟩;exact⟨_,rfl,hS.1.fr F2 (by intro e;injection e with e;omega),z,rfl,hz,S2,hS.2.2.1.fr F2 (by intro e;injection e with e;omega),hS.2.2.2.1.same F2,aR hS.2.2.2.2.1 F2 (fun q hq=>by injection hq with hq;omega),Nat.lt_of_lt_of_le hS.2.2.2.2.2 F2.size⟩
   rintro v88 wq hT88;clear hT88 wq;refine FxP.new (fun u W=>OpB W ob ⟨6,t,a,m,x,y,0,0,0,l⟩ (.slice Ap l.length cp)∧∃(z:Ast) (bk:Nat),u= .slice (some ⟨bk,0,none⟩) 1 1∧W.heap[bk]?=some (.cells #[.string (bL z.code),.int .i64 z.iss] 46 (0,0))∧Hid (z=nat∨z=usd∨z=eur)∧bP 69 W g∧OpB W w.heap.size op0 (.slice none 0 0)∧Fr (some g) w W∧W.ownsRow (ob+1) 46 2 (.slice Ap l.length cp) l.length (flR cB l)∧ob<W.heap.size) rfl rfl rfl (by kernel_rfl) (fun ev w hS E=>?_) (fun v W h=>h.1) ?_
   ·obtain⟨t88,ec,ef,eg⟩:=E.get [(0,3,88)] [] (by kernel_rfl);clear E;simp only[aG] at t88;obtain⟨q1,z,rfl,q2,q3,q4,q5,q6,q7⟩:=hS;refine⟨?_,?_,?_,?_⟩;rotate_left 2
    ·go_simp;first|(refine And.intro ?_ ?_<;>with_reducible rfl)|with_reducible rfl
    have FA:=(Fr.refl none w).alloc (.cells #[.string (bL z.code),.int .i64 z.iss] 46);exact⟨q1.fr FA,z,w.heap.size,rfl,aD _ _,q2,q3.fr FA,q4.fr FA,q5.pure FA,aR q6 FA (by simp),Nat.lt_of_lt_of_le q7 FA.size⟩
   rintro v89 wq hT89;clear hT89 wq;refine FxP.new (fun u W=>OpB W ob ⟨6,t,a,m,x,y,0,0,0,l⟩ (.slice Ap l.length cp)∧∃(z:Ast) (A':Option Addr) (c':Nat),u= .slice A' (l.length+1) c'∧Hid (z=nat∨z=usd∨z=eur)∧bP 69 W g∧OpB W w.heap.size op0 (.slice none 0 0)∧Fr (some g) w W∧W.ownsRow (ob+1) 46 2 (.slice A' (l.length+1) c') (l.length+1) (flR cB (l++[z]))∧ob<W.heap.size) rfl rfl rfl (by kernel_rfl) (fun ev w hS E=>?_) (fun v W h=>h.1) ?_
   ·obtain⟨t86,t89,ec,ef,eg⟩:=E.get [(3,1,86),(0,4,89)] [] (by kernel_rfl);clear E;simp only[aG] at t86 t89;obtain⟨q1,z,bk,rfl,hbk,q2,q3,q4,q5,q6,q7⟩:=hS;refine yM GP (.tmp 86) (.tmp 89) rfl (ob+1) Ap l.length cp (flR cB l) t86 q6 _ 1 1 _ t89 (yL hbk 1 2 rfl (by unfold maxLen;omega)) (by simp[Value.oneCell']) (by omega) (by unfold maxLen;omega) (by omega) ?_;intro A' c' w' own' F' nb;exact⟨q1.fr F' (gF q6 (by omega)),z,A',c',rfl,q2,q3.frs F' (fun b e=>by have:=bH q6 b e;omega),q4.fr F' (gF q6 (by omega)),q5.own F' (fun b e=>by have:=bH q6 b e;omega),by rw[cV];exact own',Nat.lt_of_lt_of_le q7 F'.size⟩
   rintro v90 wq hT90;clear hT90 wq;refine FxP.p [] [5] ?_;refine FxP.store (S':=(fun W=>∃(z:Ast) (A':Option Addr) (c':Nat),Hid (z=nat∨z=usd∨z=eur)∧OpB W ob ⟨6,t,a,m,x,y,0,0,0,l++[z]⟩ (.slice A' (l.length+1) c')∧bP 69 W g∧OpB W w.heap.size op0 (.slice none 0 0)∧Fr (some g) w W∧W.ownsRow (ob+1) 46 2 (.slice A' (l.length+1) c') (l.length+1) (flR cB (l++[z]))∧ob<W.heap.size)) rfl rfl rfl (by kernel_rfl) (fun ev w hS E=>?_) (fR.new (G':=fun _=>True) (by kernel_rfl) (fun _ _=>trivial)) ?_
   ·obtain⟨q1,z,A',c',rfl,q2,q3,q4,q5,q6,q7⟩:=hS;have hz:=q1.frees;obtain⟨c0,c1,c2,c3,c4,c5,c6,c7,c8,c9,c10,c11⟩:=OpB.cells q1;obtain⟨t91,t90,ec,ef,eg⟩:=E.get [(0,6,91),(1,5,90)] [] (by kernel_rfl);clear E;simp only[aG] at t91 t90;refine⟨?_,?_,?_⟩;rotate_left
    ·go_simp;try with_reducible rfl
    have G:Fr (some ob) w _:=Fr.set1 w ⟨ob,11,none⟩ (.slice A' (l.length+1) c');exact⟨z,A',c',q2,OpB.path q1 (l++[z]) _,q3.frs G (fun b e=>by injection e with e;omega),q4.fr G (by intro e;injection e with e;omega),q5.new G (by omega),aR q6 G (fun b hb=>by injection hb with hb;omega),Nat.lt_of_lt_of_le q7 G.size⟩
   refine FxP.done (fun W hW=>?_);simp only[bF];try simp only[sI]
   obtain⟨z,A',c',q2,q1,q3,q4,q5,q6,q7⟩:=hW;go_wp2_with fail;go_roundw
   case rel=>exact⟨j - 1,l++[z],A',c',by go_num,by omega,by rw[List.length_append];simp only[List.length_cons,List.length_nil];omega,(fun u hu=>by
    rcases List.mem_append.1 hu with hu|hu
    ·exact HL.out u hu
    rw[List.mem_singleton.1 hu];exact q2.out),by rw[List.length_append];exact q1,q3,q4,q5,by rw[List.length_append];exact q6,q7⟩
   case measure=>simp[intOf];omega
  have hl2:l.length≤2:=by omega
  obtain⟨c0,c1,c2,c3,c4,c5,c6,c7,c8,c9,c10,c11⟩:=OpB.cells hO;dsimp only at c0 c1 c2 c3 c4 c5 c6 c7 c8 c9 c10 c11;have el:=hR.lt;have HOW:=sH own;clear own;have z0:=OpB.free hR 0;have z1:=OpB.free hR 1;have z2:=OpB.free hR 2;have z3:=OpB.free hR 3;have z4:=OpB.free hR 4;have z5:=OpB.free hR 5;have z6:=OpB.free hR 6;have z7:=OpB.free hR 7;have z8:=OpB.free hR 8;have z9:=OpB.free hR 9;have z10:=OpB.free hR 10;have z11:=OpB.free hR 11;obtain⟨e0,e1,e2,e3,e4,e5,e6,e7,e8,e9,e10,e11⟩:=OpB.cells hR;go_wp2_with fail;generalize hW5:World.setCell _ _ _=w9;obtain⟨R9,G9⟩:=fS hR (⟨6,t,a,m,x,y,0,0,0,l⟩:Opr) (.slice Ap ((⟨6,t,a,m,x,y,0,0,0,l⟩:Opr)).path.length cp) w9 hW5.symm;clear hW5 z0 z1 z2 z3 z4 z5 z6 z7 z8 z9 z10 z11 e0 e1 e2 e3 e4 e5 e6 e7 e8 e9 e10 e11;have S9:=(hS).frs G9 (fun b e=>by injection e with e;omega);have z0:=OpB.free R9 0;have z1:=OpB.free R9 1;have z2:=OpB.free R9 2;have z3:=OpB.free R9 3;have z4:=OpB.free R9 4;have z5:=OpB.free R9 5;have z6:=OpB.free R9 6;have z7:=OpB.free R9 7;have z8:=OpB.free R9 8;have z9:=OpB.free R9 9;have z10:=OpB.free R9 10;have z11:=OpB.free R9 11;obtain⟨e0,e1,e2,e3,e4,e5,e6,e7,e8,e9,e10,e11⟩:=OpB.cells R9;refine bodyPost_ret (v:=.agg (opL (⟨6,t,a,m,x,y,0,0,0,l⟩:Opr) (.slice Ap ((⟨6,t,a,m,x,y,0,0,0,l⟩:Opr)).path.length cp)).toArray) (by simp[results,Tryz.results27,go_sem,opL,e0,e1,e2,e3,e4,e5,e6,e7,e8,e9,e10,e11]) rfl ?_;exact⟨⟨⟨6,t,a,m,x,y,0,0,0,l⟩,Ap,cp⟩,rfl,Iu (by omega) (by omega) (by omega) (Ab HX.out) (Ab HY.out) (by omega) (fun z hz=>Ab (HL.out z hz)),(SlN.of_own (R:=cB) (aR HOW.out G9 (fun b hb=>by injection hb with hb;omega)) (fun z hz=>qB.wi (HL.out z hz))).mono (by omega),⟨wi6,eL (n:=t) (by omega),eL (n:=a) (by omega),eL (n:=m) (by omega),qB.wi HX.out,qB.wi HY.out,wi0,wi0,wi0⟩,S9,FX.new G9 (Nat.le_refl _)⟩
end Go.Proofs.YthaggndnfamhjaaGreatDoor
