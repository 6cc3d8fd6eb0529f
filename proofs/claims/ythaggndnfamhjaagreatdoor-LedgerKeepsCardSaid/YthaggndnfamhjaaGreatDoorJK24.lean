/- Texts, joined. -/
import Derived.Test.YthaggndnfamhjaaGreatDoorProg
import Derived.Test.YthaggndnfamhjaaGreatDoorJK10
import Derived.Test.YthaggndnfamhjaaGreatDoorJK23
import Derived.Test.YthaggndnfamhjaaGreatDoorJK12
import Derived.Test.YthaggndnfamhjaaGreatDoorJA

set_option linter.unusedSimpArgs false
set_option linter.unusedVariables false
set_option maxRecDepth 100000
set_option maxHeartbeats 16000000
namespace Go.Proofs.YthaggndnfamhjaaGreatDoor
open Go.RowKit
def tG(B:Nat)(w:World)(v:Value)(l:List TxX):Prop:=SlN txR B w v l∧∀t ∈ l,TxN B w t
theorem tG.t{B:Nat}{w:World}{v:Value}{l:List TxX}(h:tG B w v l)(r:Option Nat)(hr:∀g,r=some g→g<B):SlT w r v l:=⟨h.1.sl r hr,fun t ht=>(h.2 t ht).d r hr⟩
theorem tG.fr{B:Nat}{r:Option Nat}{w w':World}{v:Value}{l:List TxX}(h:tG B w v l)(f:Fr r w w')(hr:∀g,r=some g→g<B:=by simp):tG B w' v l:=⟨h.1.fr f hr,fun t ht=>(h.2 t ht).fr f hr⟩
theorem tG.mono{B B':Nat}{w:World}{v:Value}{l:List TxX}(h:tG B w v l)(hB:B'≤B):tG B' w v l:=⟨h.1.mono hB,fun t ht=>(h.2 t ht).mono hB⟩
theorem TxO.n{B:Nat}{w:World}{v:Value}{t:TxX}(h:TxO B w v t):TxN B w t:=⟨⟨h.1.1.keep Bf,h.1.2⟩,fun x hx=>⟨(h.2 x hx).1.keep Bf,(h.2 x hx).2⟩⟩
def Hs(w:World)(g:Nat)(most:Nat)(e:Ending)(w':World):Prop:=
 ∃(v:Value) (l:List TxX),e= .returned v∧tG w.heap.size w' v l∧l.length≤most∧l.length≤5∧(∀t ∈ l,vTx t.pl=true∧Hh t)∧l.Pairwise (fun a b=>a.src<b.src)∧bP 69 w' g∧Fr (some g) w w'
def qC(B:Nat)(w:World)(v:Value)(i:Int)(l:List TxX):Prop:=∀t ∈ l,(1≤t.src∧t.src<i)∧vTx t.pl=true∧Hh t∧TxO B w v t
theorem qC.keep{B B':Nat}{w w':World}{v v':Value}{i:Int}{l:List TxX}(h:qC B w v i l)(hD:∀z,Dx B w v z→Dx B' w' v' z∧w'.heap[z]?=w.heap[z]?):qC B' w' v' i l:=fun t ht=>⟨(h t ht).1,(h t ht).2.1,(h t ht).2.2.1,(h t ht).2.2.2.keep hD⟩
theorem qC.up{B:Nat}{w:World}{v:Value}{i:Int}{l:List TxX}(h:qC B w v i l):qC B w v (i+1) l:=fun t ht=>⟨⟨(h t ht).1.1,by have:=(h t ht).1.2;omega⟩,(h t ht).2⟩
theorem Ge{t:TxX}(h1:1≤t.src∧t.src≤1000)(h2:1≤t.seq∧t.seq≤1000000)(h3:1≤t.fee∧t.fee≤100000)(h4:1≤t.ops.length∧t.ops.length≤4)(h5:∀x ∈ t.ops,vOp x.o=true):vTx t.pl=true:=by
 rw[tE];simp only[Bool.and_eq_true,eF,eB];refine⟨h1,h2,h3,⟨by omega,by omega⟩,?_⟩;exact List.all_eq_true.2 h5
theorem BW{o:Opr}(h:vOp o=true):o.path.length≤4:=by
 have:=qP h;unfold VO at this;rcases this with⟨-, -, -,e⟩|⟨-, -, -, -,e⟩|⟨-, -, -,e⟩|⟨-, -, -, -, -,e⟩|⟨-, -,e⟩|⟨-, -, -, -, -, -,e, -⟩
 ·rw[←e];exact Nat.zero_le 4
 ·rw[←e];exact Nat.zero_le 4
 ·rw[←e];exact Nat.zero_le 4
 ·rw[←e];exact Nat.zero_le 4
 ·rw[←e];exact Nat.zero_le 4
 exact e
theorem rH{l:List OpX}(h:1≤l.length):(l.take 1).length=1:=by rw[List.length_take];omega
theorem xJ(g:Nat)(G:Lgr)(A1 A2 A3:Option Addr)(n2 n3 c1 c2 c3:Nat)(most:Nat)(w:World)(hmost:most≤5)(h:bP 69 w g)(hA:SlR aP w (some g) (.slice A1 G.accs.length c1) G.accs)(hG:SqB G.accs):
  Calls Tryz.prog 15 #[.pointer (some ⟨g,0,none⟩),.agg #[.int .i64 G.num,.slice A1 G.accs.length c1,.slice A2 n2 c2,.slice A3 n3 c3,.int .i64 G.nid,.int .i64 G.fees,.int .u64 (G.link:Int)],.int .i64 (most:Int)] w (Hs w g most):=by
 have hgl:=h.lt;have HA:=sH hA;clear hA;go_enter Tryz.func15,Tryz.ntmps15;go_upto_region 1 with(fail)
 generalize hW:w.alloc _=w1;have F1:Fr none w w1:=hW▸(Fr.refl none w).alloc _;have bg:w1.heap[w.heap.size]?=some (.cells #[.int .i64 G.num,.slice A1 G.accs.length c1,.slice A2 n2 c2,.slice A3 n3 c3,.int .i64 G.nid,.int .i64 G.fees,.int .u64 (G.link:Int)] 30 (0,0)):=by rw[←hW];exact aD _ _
 have hb1:w.heap.size<w1.heap.size:=aC bg;clear hW;have S1:=h.fr F1;have FX:Fr (some g) w w1:=F1.mono;clear h F1;obtain⟨B,hB⟩:∃B,B=w.heap.size+1:=⟨_,rfl⟩;go_wp2_with fail;go_loopw [7,8,9] (fun s7 s8 s9 wr=>∃(i sz:Int) (l:List TxX) (Ap:Option Addr) (cp:Nat),(1≤i∧i≤6)∧s9= .int .i64 i∧s8= .int .i64 sz∧(0≤sz∧sz≤60*i)∧s7= .slice Ap l.length cp∧(l.length≤most∧(l.length:Int)<i)∧wr.heap[w.heap.size]?=some (.cells #[.int .i64 G.num,.slice A1 G.accs.length c1,.slice A2 n2 c2,.slice A3 n3 c3,.int .i64 G.nid,.int .i64 G.fees,.int .u64 (G.link:Int)] 30 (0,0))∧Hid (l.Pairwise (fun a b=>a.src<b.src))∧wr.ownsRow B 34 4 (.slice Ap l.length cp) l.length (flR txR l)∧Hid (qC B wr (.slice Ap l.length cp) i l)∧bP 69 wr g∧Fr (some g) w wr∧B≤wr.heap.size) (fun _ _ s9 _=>(6 - intOf s9).toNat)
 case atStart=>exact⟨1,0,[],none,0,by omega,rfl,rfl,by omega,rfl,by simp,bg,List.Pairwise.nil,World.ownsRow_nil _ _ _ _,(fun t ht=>by cases ht),S1,FX,by omega⟩
 case round=>
  clear bg S1 FX hb1;obtain⟨i,sz,l,Ap,cp,hi,rfl,rfl,hsz,rfl,hl,bg,HPW,own,HO,S,F,hB2⟩:=hrel;have hi1:IntKind.i64.wrap (i+1)=i+1:=by rw[IntKind.wrap_i64];omega
  by_cases hq:i≤5∧l.length<most
  ·have q1:decide (i≤5)=true:=decide_eq_true hq.1;have q2:decide ((l.length:Int)<(most:Int))=true:=decide_eq_true (by omega);have k0:=lS bg;go_wp2_with fail;refine(cN 2 g wr (by omega) S).mono ?_;rintro e w2 ⟨x,rfl,x1,x2,S2,F2⟩;have bg:=aF bg F2 (by intro e;injection e with e;omega);have own2:=aR own F2 (by intro b e;injection e with e;omega);have HO2:Hid (qC B w2 (.slice Ap l.length cp) i l):=HO.out.keep (jQ F2 (by intro b e;injection e with e;omega));have FF2:=F.same F2;have hs2:=F2.size;clear k0 S F own HO F2;by_cases hx:x=0
   ·subst hx;go_wp2_with fail;go_roundw
    case rel=>exact⟨i+1,sz,l,Ap,cp,by omega,by go_num,rfl,by omega,rfl,by omega,bg,HPW,own2,HO2.out.up,S2,FF2,by omega⟩
    case measure=>simp[intOf];omega
   have hx':(x == 0)=false:=by rw[beq_eq_false_iff_ne];exact hx
   obtain⟨k0,k1,k2,k3,k4,k5,k6⟩:=lS bg;clear hx;go_wp2_with fail;refine(Ae g G A1 A2 A3 n2 n3 c1 c2 c3 w2 S2 (HA.out.fr FF2) hG).mono ?_;rintro e w3 ⟨⟨ts,tq,tf,tops,tA,tc⟩,rfl,ht1,ht2,ht3,ht4,hops,hTN,S3,F3⟩;dsimp only at ht1 ht2 ht3 ht4 hops;have HOPS:=sH hops;have hs3:=F3.size;have bg:=aF bg F3 (by intro e;injection e with e;omega);have own3:=aR own2 F3 (by intro b e;injection e with e;omega);have HOB:Hid (∀b,(Value.slice Ap l.length cp).ownBlock=some b→b<w2.heap.size):=fun b hb=>(own2.lt b hb).2;have HO3:Hid (qC B w3 (.slice Ap l.length cp) i l):=HO2.out.keep (jQ F3 (by intro b e;injection e with e;omega));have HTN:=sH hTN;have FF3:=FF2.same F3;clear k0 k1 k2 k3 k4 k5 k6 own2 HO2 FF2 S2 hTN hops F3;unfold txV;dsimp only;go_upto_region 8 with(fail)
   obtain⟨tb,htb⟩:∃tb,tb=w3.heap.size:=⟨_,rfl⟩;rw[←htb];generalize hW:w3.alloc _=w4;have F4:Fr none w3 w4:=hW▸(Fr.refl none w3).alloc _;have hT:TxB w4 tb ⟨ts,tq,tf,tops,tA,tc⟩:=by rw[←hW,htb];exact aD _ _
   have htb2:w3.heap.size≤tb:=by omega
   clear hW htb;have hz:=eR hT;obtain⟨e0,e1,e2,e3⟩:=bD hT;dsimp only at e0 e1 e2 e3;have k1:=(lS (aF bg F4 (by simp))).2.1;go_upto_region 9 with(fail)
   generalize hW:World.setCell _ _ _=w5;have G5:Fr (some tb) w4 w5:=hW▸Fr.set1 w4 ⟨tb,0,none⟩ (.int .i64 i);have hT:TxB w5 tb ⟨i,tq,tf,tops,tA,tc⟩:=by rw[←hW];exact aI hT 0 _
   have F5:Fr none w3 w5:=F4.new G5 htb2;clear hW hz e0 e1 e2 e3 k1 F4 G5;have k1:w5.cell? ⟨w.heap.size,1,none⟩=some (.slice A1 G.accs.length c1):=(lS (aF bg F5 (by simp))).2.1;go_wp2_with fail;refine(fM G.accs _ i w5 (HA.out.fr (FF3.pure F5)).weak).mono ?_;rintro e w6 ⟨rfl,F6⟩;unfold xB;have hsq:=hG i;have hT:=hT.fr F6;have F6:=F5.pure F6;clear k1 F5;generalize hV:dR G.accs i=V at hsq ⊢;obtain⟨V1,V2⟩:=V;clear hV;dsimp only at hsq ⊢
   go_upto_if 38 with(fail)
   obtain⟨ab,hab⟩:∃ab,ab=w6.heap.size:=⟨_,rfl⟩;rw[←hab];generalize hW:w6.alloc _=w7;have F67:Fr none w6 w7:=hW▸(Fr.refl none w6).alloc _;have ba:w7.heap[ab]?=some (.cells #[.int .i64 V1.id,.int .i64 V1.bal,.int .i64 V1.seq] 59 (0,0)):=by rw[←hW,hab];exact aD _ _
   clear hW hab;have hT:=hT.fr F67;have F7:=F6.pure F67;have q2:w7.cell? ⟨ab,2,none⟩=some (.int .i64 V1.seq):=by rw[aA ba];rfl
   clear F6 F67 ba;go_cut [] (fun W=>∃sq:Int,1≤sq∧sq≤102∧TxB W tb ⟨i,sq,tf,tops,tA,tc⟩∧Fr none w3 W)
   case first=>
    obtain⟨e0,e1,e2,e3⟩:=bD hT;dsimp only at e0 e1 e2 e3;have hz:=eR hT;have hw1:IntKind.i64.wrap (V1.seq+1)=V1.seq+1:=by rw[IntKind.wrap_i64];omega
    cases V2 with
    |true=>
     go_wp2_with fail;go_meet
     generalize hW:World.setCell _ _ _=w8;have G8:Fr (some tb) w7 w8:=hW▸Fr.set1 w7 ⟨tb,1,none⟩ (.int .i64 (V1.seq+1));exact⟨V1.seq+1,by omega,by omega,by rw[←hW];exact aI hT 1 _,F7.new G8 htb2⟩
    |false=>
     go_wp2_with fail;go_meet
     exact⟨tq,by omega,by omega,hT,F7⟩
   case rest=>
    clear hT F7 q2;obtain⟨sq,s1,s2,hT,F8⟩:=hcut;obtain⟨qb,qo,hqA,hqc⟩:∃qb qo,tA=some ⟨qb,qo,none⟩∧tops.length≤tc:=by
     obtain⟨A',n',c',e,hn,hc,_,hx⟩:=HTN.out.1.1;unfold TxX.v at e;injection e with h1 h2 h3
     dsimp only at h1 h2 h3;obtain⟨b,off,h4,_⟩:=hx (by omega);exact⟨b,off,by rw[h1,h4],by omega⟩
    subst hqA;have htc:tc≤9223372036854775807:=by
     obtain⟨A',n',c',e,hn,hc,hm,hx⟩:=HTN.out.1.1;unfold TxX.v maxLen at*
     injection e with h1 h2 h3
     dsimp only at h3;omega
    obtain⟨e0,e1,e2,e3⟩:=bD hT;dsimp only at e0 e1 e2 e3;have hz:=eR hT;have hsz1:IntKind.i64.wrap (sz+60)=sz+60:=by rw[IntKind.wrap_i64];omega
    have htc1:(1:Int)≤(tc:Int):=by omega
    go_upto_region 13 with(fail)
    generalize hW:World.setCell _ _ _=w9;have G9:Fr (some tb) wc w9:=hW▸Fr.set1 wc ⟨tb,3,none⟩ (.slice (some ⟨qb,qo,none⟩) 1 tc);have hT:TxB w9 tb ⟨i,sq,tf,tops.take 1,some ⟨qb,qo,none⟩,tc⟩:=by
     have:=aI hT 3 (.slice (some ⟨qb,qo,none⟩) 1 tc);rw[←hW];unfold TxB txC TxX.v;dsimp only;rw[rH (by omega)];exact this
    have F9:=F8.new G9 htb2;clear hW hz e0 e1 e2 e3 F8 G9;obtain⟨e0,e1,e2,e3⟩:=bD hT;dsimp only at e0 e1 e2 e3;rw[rH (by omega)] at e3;have hs9:=F9.size;have htl:=hT.lt;have bg9:=aF bg F9 (by simp);have own9:=aR own3 F9 (by simp);have HO9:Hid (qC B w9 (.slice Ap l.length cp) i l):=HO3.out.keep (jQ F9 (by simp));have HT9:Hid (TxN w2.heap.size w9 ⟨ts,tq,tf,tops,some ⟨qb,qo,none⟩,tc⟩):=HTN.out.fr F9;have S9:=S3.fr F9;have FF9:=FF3.pure F9;clear own3 HO3 HTN S3 FF3 F9 bg;by_cases h200:sz+60≤200
    ·have h2:decide (sz+60≤200)=true:=decide_eq_true h200;have hcp:=jA own9;have hb9:B≤w9.heap.size:=by omega
     clear h200;go_wp2_with (at_builtin;refine iW Hr rfl _ _ rfl B Ap l.length cp _ rfl own9 1 [.int .i64 i,.int .i64 sq,.int .i64 tf,.slice (some ⟨qb,qo,none⟩) 1 tc] _ _ rfl (by simp) rfl (by simp[Value.oneCell']) (by omega) (by unfold maxLen;omega) (by omega) ?_;intro A7 c7 wA own7 F7 nb7);go_roundw
     case rel=>
      have hdx:∀z:Nat,Dx B w9 (.slice Ap l.length cp) z→Dx B wA (.slice A7 (l.length+1) c7) z∧wA.heap[z]?=w9.heap[z]?:=sO F7 nb7;have hge:=bH own9;refine⟨i+1,sz+60,l++[⟨i,sq,tf,tops.take 1,some ⟨qb,qo,none⟩,tc⟩],A7,c7,by omega,by go_num,by go_num,by omega,?_,?_,aF bg9 F7 (fun e=>by have:=hge _ e;omega),?_,?_,?_,S9.frs F7 (fun b e=>by have:=hge b e;omega),FF9.own F7 (fun b e=>by have:=hge b e;omega),by have:=F7.size;omega⟩
      ·rw[List.length_append];rfl
      ·rw[List.length_append];simp only[List.length_cons,List.length_nil];omega
      ·refine List.pairwise_append.2 ⟨HPW.out,List.pairwise_singleton _ _,fun a ha b hb=>?_⟩;rw[List.mem_singleton.1 hb];exact(HO9.out a ha).1.2
      ·rw[List.length_append];simp only[List.length_cons,List.length_nil];rw[cV];unfold txR txC TxX.v;dsimp only;rw[rH (by omega)];exact own7
      rw[List.length_append];simp only[List.length_cons,List.length_nil];intro z hz;rcases List.mem_append.1 hz with hz|hz
      ·exact(HO9.out.keep hdx).up z hz
      rw[List.mem_singleton.1 hz];have hm:∀x ∈ tops.take 1,x ∈ tops:=fun x hx=>List.mem_of_mem_take hx;have hvo:∀x ∈ tops.take 1,vOp x.o=true:=fun x hx=>HOPS.out x (hm x hx);refine⟨⟨by dsimp only;omega,by dsimp only;omega⟩,Ge ⟨by dsimp only;omega,by dsimp only;omega⟩ ⟨by dsimp only;omega,by dsimp only;omega⟩ ⟨by dsimp only;omega,by dsimp only;omega⟩ (by dsimp only;rw[rH (by omega)];omega) hvo,⟨by dsimp only;rw[rH (by omega)];omega,fun x hx=>by have:=BW (hvo x hx);omega⟩,?_⟩;have hTO:TxO B w9 (.slice Ap l.length cp) ⟨ts,tq,tf,tops,some ⟨qb,qo,none⟩,tc⟩:=TxO.of HT9.out (yB (by omega) HOB.out);have hT2:TxO B w9 (.slice Ap l.length cp) ⟨i,sq,tf,tops.take 1,some ⟨qb,qo,none⟩,tc⟩:=by
       refine⟨⟨?_,fun x hx=>hTO.1.2 x (hm x hx)⟩,fun x hx=>hTO.2 x (hm x hx)⟩;have:=hTO.1.1.take 1 (by dsimp only;omega);rw[show(1:Nat)*12=1*opR.sz from rfl,gH] at this;unfold TxX.v;dsimp only;rw[rH (by omega)];exact this
      exact hT2.keep hdx
     case measure=>simp[intOf];omega
    have h2:decide (sz+60≤200)=false:=decide_eq_false h200;clear h200;go_wp2_with fail;go_roundw
    case rel=>exact⟨i+1,sz+60,l,Ap,cp,by omega,by go_num,by go_num,by omega,rfl,by omega,bg9,HPW,own9,HO9.out.up,S9,FF9,by omega⟩
    case measure=>simp[intOf];omega
  have HEND:Hid (Hs w g most (.returned (.slice Ap l.length cp)) wr):=by
   refine⟨_,l,rfl,⟨(SlN.of_own (R:=txR) own (fun t ht=>?_)).mono (by omega),fun t ht=>(HO.out t ht).2.2.2.n.mono (by omega)⟩,hl.1,by omega,fun t ht=>⟨(HO.out t ht).2.1,(HO.out t ht).2.2.1⟩,HPW.out,S,F⟩;have:=kO (HO.out t ht).2.1;exact⟨this.1,this.2.1,this.2.2.1⟩
  clear own HO S F bg;by_cases h5:i≤5
  ·have q1:decide (i≤5)=true:=decide_eq_true h5;have q2:decide ((l.length:Int)<(most:Int))=false:=decide_eq_false (by omega);go_wp2;go_ret;exact HEND.out
  have q1:decide (i≤5)=false:=decide_eq_false h5;go_wp2;go_ret;exact HEND.out
theorem Ej{l:List Txn}(h1:l.length≤12)(h2:∀t ∈ l,vTx t=true)(h3:l.Pairwise (fun a b=>nQ a b=true)):cS l=0:=by
 unfold cS;rw[if_neg (by omega),if_neg (by rw[List.all_eq_true.2 h2];simp),if_pos];refine eZ fun k hk=>?_;unfold bK GH;by_cases h0:k=0
 ·rw[if_pos h0]
 rw[if_neg h0];have hk1:k - 1<l.length:=by omega
 rw[List.getElem?_eq_getElem hk1];exact List.pairwise_iff_getElem.1 h3 (k - 1) k hk1 hk (by omega)
theorem BX{a b:Txn}(h:a.src<b.src):nQ a b=true:=by unfold nQ;exact decide_eq_true (.inl h)
theorem Hv{l:List TxX}(h:l.Pairwise (fun a b=>a.src<b.src)):(plT l).Pairwise (fun a b=>nQ a b=true):=by
 unfold plT;rw[List.pairwise_map];exact h.imp fun h=>BX h
end Go.Proofs.YthaggndnfamhjaaGreatDoor
