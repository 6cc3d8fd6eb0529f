/- Texts, joined. -/
import Derived.Test.YthaggndnfamhjaaGreatDoorProg
import Derived.Test.YthaggndnfamhjaaGreatDoorJK9
import Derived.Test.YthaggndnfamhjaaGreatDoorJK18
import Derived.Test.YthaggndnfamhjaaGreatDoorJK4
import Derived.Test.YthaggndnfamhjaaGreatDoorJK1
import Derived.Lib.ItoaLen
import Derived.Test.YthaggndnfamhjaaGreatDoorJK2
import Derived.Test.YthaggndnfamhjaaGreatDoorJK3
import Derived.Lib.ItoaMem
import Derived.Lib.ItoaNum
import Derived.Test.YthaggndnfamhjaaGreatDoorJK25
import Derived.Test.YthaggndnfamhjaaGreatDoorJK26
import Derived.Test.YthaggndnfamhjaaGreatDoorJK8
import Derived.Test.YthaggndnfamhjaaGreatDoorJK27
import Derived.Laws.RangeAny
import Derived.Laws.RangeString
import Derived.Test.YthaggndnfamhjaaGreatDoorJK16
import Derived.Test.YthaggndnfamhjaaGreatDoorJB
import Derived.Test.YthaggndnfamhjaaGreatDoorJA

set_option linter.unusedSimpArgs false
set_option linter.unusedVariables false
set_option maxRecDepth 100000
set_option maxHeartbeats 16000000
namespace Go.Proofs.YthaggndnfamhjaaGreatDoor
open Go.RowKit
def SqB(l:List aQ):Prop:=∀id,0≤(dR l id).1.seq∧(dR l id).1.seq≤100
theorem SqB.of{l:List aQ}(h:∀x ∈ l,0≤x.seq∧x.seq≤100):SqB l:=fun id=>by
 unfold dR;cases hf:aK l id with
 |none=>exact⟨by decide,by decide⟩
 |some a=>exact h a (List.mem_of_find?_eq_some hf)
def TxS(w:World)(g:Nat)(e:Ending)(w':World):Prop:=
 ∃t:TxX,e= .returned (txV t)∧(1≤t.src∧t.src≤5)∧(1≤t.seq∧t.seq≤102)∧(1≤t.fee∧t.fee≤5)∧(1≤t.ops.length∧t.ops.length≤3)∧(∀x ∈ t.ops,vOp x.o=true)∧TxN w.heap.size w' t∧bP 69 w' g∧Fr (some g) w w'
def kW(B:Nat)(w:World)(v:Value)(l:List OpX):Prop:=∀x ∈ l,OpW x.o∧vOp x.o=true∧SlD w (Dx B w v) 2 x.v (flR cB x.o.path)∧∀a ∈ x.o.path,Wi a.iss
theorem kW.keep{B B':Nat}{w w':World}{v v':Value}{l:List OpX}(h:kW B w v l)(hD:∀z,Dx B w v z→Dx B' w' v' z∧w'.heap[z]?=w.heap[z]?):kW B' w' v' l:=fun x hx=>⟨(h x hx).1,(h x hx).2.1,(h x hx).2.2.1.keep hD,(h x hx).2.2.2⟩
theorem kW.snoc{B:Nat}{w:World}{v:Value}{l:List OpX}{x:OpX}(h:kW B w v l)(hx:kW B w v [x]):kW B w v (l++[x]):=fun y hy=>by
 rcases List.mem_append.1 hy with hy|hy
 ·exact h y hy
 exact hx y hy
theorem Ae(g:Nat)(G:Lgr)(A1 A2 A3:Option Addr)(n2 n3 c1 c2 c3:Nat)(w:World)(h:bP 69 w g)(hA:SlR aP w (some g) (.slice A1 G.accs.length c1) G.accs)(hG:SqB G.accs):
  Calls Tryz.prog 9 #[.pointer (some ⟨g,0,none⟩),.agg #[.int .i64 G.num,.slice A1 G.accs.length c1,.slice A2 n2 c2,.slice A3 n3 c3,.int .i64 G.nid,.int .i64 G.fees,.int .u64 (G.link:Int)]] w (TxS w g):=by
 have hgl:=h.lt;go_enter Tryz.func9,Tryz.ntmps9;go_upto_region 1 with(fail)
 generalize hW:w.alloc _=w1;have F1:Fr none w w1:=hW▸(Fr.refl none w).alloc _;have bg:w1.heap[w.heap.size]?=some (.cells #[.int .i64 G.num,.slice A1 G.accs.length c1,.slice A2 n2 c2,.slice A3 n3 c3,.int .i64 G.nid,.int .i64 G.fees,.int .u64 (G.link:Int)] 30 (0,0)):=by rw[←hW];exact aD _ _
 have s1:w1.heap.size=w.heap.size+1:=by rw[←hW];exact Array.size_push _
 clear hW;obtain⟨rb,hrb⟩:∃rb,rb=w.heap.size+1:=⟨_,rfl⟩;have s1:w1.heap.size=rb:=s1.trans hrb.symm;generalize hW:w1.alloc _=w2;have F2:Fr none w1 w2:=hW▸(Fr.refl none w1).alloc _;have hR:TxB w2 rb tx0:=by rw[←hW,←s1];exact aD _ _
 have hbr:w.heap.size<rb:=by have:=aC bg;omega
 rw[←hrb];clear hW hrb s1;have bg:=aF bg F2 (by simp);have FX:Fr (some g) w w2:=(F1.pure F2).mono;have S2:=h.fr (F1.pure F2);clear F1 F2 h;go_wp2_with fail;refine(cA 1 5 g w2 (by omega) (by omega) (by omega) (by omega) S2).mono ?_;rintro e w3 ⟨t,rfl,t1,t2,S3,F3⟩;have t2:t≤5:=by omega
 have G4:=(Fr.refl none w3).alloc (.cells #[.int .i64 1,.int .i64 2,.int .i64 5] 3);have hg3:=S3.lt;have hlit:SlI (w3.alloc (.cells #[.int .i64 1,.int .i64 2,.int .i64 5] 3)) (some g) (.slice (some ⟨w3.heap.size,0,none⟩) 3 3) [1,2,5]:=
  ⟨SlD.lit_dm #[.int .i64 1,.int .i64 2,.int .i64 5] 3 3 1 rfl (by unfold maxLen;omega) (by simp;omega) (Fr.refl _ _),by intro x hx;simp at hx;constructor<;>omega⟩
 go_wp2_with fail;refine(cO _ [1,2,5] g _ hlit (by simp) (by simp) (S3.fr G4)).mono ?_;rintro e w4 ⟨f,rfl,hf,S4,F4⟩;have hf:1≤f∧f≤5:=by simp at hf;omega
 have F24:=F3.same (G4.mono.same F4);have bg:=aF bg F24 (by intro e;injection e with e;omega);have hR:=hR.fr F24 (by intro e;injection e with e;omega);have FX:=FX.same F24;clear hlit G4 F3 F4 F24 S2 S3;go_upto_region 2 with(fail)
 obtain⟨tb,htb⟩:∃tb,tb=w4.heap.size:=⟨_,rfl⟩;rw[←htb];generalize hW:w4.alloc _=w5;have F5:Fr none w4 w5:=hW▸(Fr.refl none w4).alloc _;have hT:TxB w5 tb ⟨t,1,f,[],none,0⟩:=by rw[←hW,htb];exact aD _ _
 have hrt:rb<tb:=by have:=hR.lt;omega
 clear hW htb;have bg:=aF bg F5 (by simp);have hR:=hR.fr F5;have FX:=FX.pure F5;have S5:=S4.fr F5;have p1:=(lS bg).2.1;obtain⟨e0,e1,e2,e3⟩:=bD hT;dsimp only at e0 e1 e2 e3;clear S4 F5;go_wp2_with fail;refine(fM G.accs _ t w5 (hA.fr FX).weak).mono ?_;rintro e w6 ⟨rfl,F6⟩;unfold xB;have hsq:=hG t;have bg:=aF bg F6 (by simp);have hR:=hR.fr F6;have hT:=hT.fr F6;have FX:=FX.pure F6;have S6:=S5.fr F6;clear p1 e0 e1 e2 e3 S5 F6;generalize hV:dR G.accs t=V at hsq ⊢;obtain⟨V1,V2⟩:=V;clear hV;dsimp only at hsq ⊢
 go_upto_if 23 with(fail)
 obtain⟨ab,hab⟩:∃ab,ab=w6.heap.size:=⟨_,rfl⟩;rw[←hab];generalize hW:w6.alloc _=w7;have F7:Fr none w6 w7:=hW▸(Fr.refl none w6).alloc _;have ba:w7.heap[ab]?=some (.cells #[.int .i64 V1.id,.int .i64 V1.bal,.int .i64 V1.seq] 59 (0,0)):=by rw[←hW,hab];exact aD _ _
 clear hW hab;have hR:=hR.fr F7;have hT:=hT.fr F7;have FX:=FX.pure F7;have S7:=S6.fr F7;have q2:w7.cell? ⟨ab,2,none⟩=some (.int .i64 V1.seq):=by rw[aA ba];rfl
 clear S6 F7 bg ba;go_cut [] (fun W=>∃sq:Int,1≤sq∧sq≤101∧TxB W tb ⟨t,sq,f,[],none,0⟩∧TxB W rb tx0∧bP 69 W g∧Fr (some g) w W)
 case first=>
  obtain⟨e0,e1,e2,e3⟩:=bD hT;dsimp only at e0 e1 e2 e3;have hz:=eR hT;have hw1:IntKind.i64.wrap (V1.seq+1)=V1.seq+1:=by rw[IntKind.wrap_i64];omega
  cases V2 with
  |true=>
   go_wp2_with fail;go_meet
   generalize hW:World.setCell _ _ _=w8;have G8:Fr (some tb) w7 w8:=hW▸Fr.set1 w7 ⟨tb,1,none⟩ (.int .i64 (V1.seq+1));exact⟨V1.seq+1,by omega,by omega,by rw[←hW];exact aI hT 1 _,hR.fr G8 (by intro e;injection e with e;omega),S7.frs G8 (fun b e=>by injection e with e;omega),FX.new G8 (by omega)⟩
  |false=>
   go_wp2_with fail;go_meet
   exact⟨1,by omega,by omega,hT,hR,S7,FX⟩
 case rest=>
  obtain⟨sq,s1,s2,hT,hR,S8,FX⟩:=hcut;go_wp2_with fail;refine(cN 8 g wc (by omega) S8).mono ?_;rintro e w9 ⟨x,rfl,x1,x2,S9,F9⟩;have hT:=hT.fr F9 (by intro e;injection e with e;omega);have hR:=hR.fr F9 (by intro e;injection e with e;omega);have FX:=FX.same F9;clear S8 F9
  go_upto_if 30 with(fail)
  go_cut [] (fun W=>∃sq:Int,1≤sq∧sq≤102∧TxB W tb ⟨t,sq,f,[],none,0⟩∧TxB W rb tx0∧bP 69 W g∧Fr (some g) w W)
  case first=>
   obtain⟨e0,e1,e2,e3⟩:=bD hT;dsimp only at e0 e1 e2 e3;have hz:=eR hT;have hw1:IntKind.i64.wrap (sq+1)=sq+1:=by rw[IntKind.wrap_i64];omega
   by_cases h7:x=7
   ·have h7':(x == 7)=true:=by rw[beq_iff_eq];exact h7
    clear h7;go_wp2_with fail;go_meet
    generalize hW:World.setCell _ _ _=w10;have G8:Fr (some tb) w9 w10:=hW▸Fr.set1 w9 ⟨tb,1,none⟩ (.int .i64 (sq+1));exact⟨sq+1,by omega,by omega,by rw[←hW];exact aI hT 1 _,hR.fr G8 (by intro e;injection e with e;omega),S9.frs G8 (fun b e=>by injection e with e;omega),FX.new G8 (by omega)⟩
   have h7':(x == 7)=false:=by rw[beq_eq_false_iff_ne];exact h7
   clear h7;go_wp2_with fail;go_meet
   exact⟨sq,by omega,by omega,hT,hR,S9,FX⟩
  case rest=>
   clear hT hR FX S9 s1 s2;obtain⟨sq,s1,s2,hT,hR,S9,FX⟩:=hcut;go_wp2_with fail;refine(cA 1 3 g _ (by omega) (by omega) (by omega) (by omega) S9).mono ?_;rintro e w11 ⟨n,rfl,n1,n2,S11,F11⟩;have n2:n≤3:=by omega
   have hT:=hT.fr F11 (by intro e;injection e with e;omega);have hR:=hR.fr F11 (by intro e;injection e with e;omega);have FX:=FX.same F11;have hTl:=hT.lt;clear S9 F11;go_wp2_with fail;go_loopw [8] (fun s8 wr=>∃(j:Int) (l:List OpX) (Ap:Option Addr) (cp:Nat),s8= .int .i64 j∧0≤j∧j+(l.length:Int)=n∧TxB wr tb ⟨t,sq,f,l,Ap,cp⟩∧bP 69 wr g∧TxB wr rb tx0∧Fr (some g) w wr∧wr.ownsRow (tb+1) 49 12 (.slice Ap l.length cp) l.length (flR opR l)∧kW (tb+1) wr (.slice Ap l.length cp) l∧tb<wr.heap.size) (fun s8 _=>(intOf s8).toNat)
   case atStart=>exact⟨n,[],none,0,rfl,by omega,by simp,hT,S11,hR,FX,World.ownsRow_nil _ _ _ _,(fun z hz=>by cases hz),hTl⟩
   case round=>
    clear hT hR FX S11 hTl;obtain⟨j,l,Ap,cp,rfl,hj0,hj2,hT,hS,hR,FX,own,HP,hTl⟩:=hrel;by_cases hlt:0<j
    ·have hm1:IntKind.i64.wrap (j - 1)=j - 1:=by rw[IntKind.wrap_i64];omega
     have hl2:l.length≤3:=by omega
     have hcp:=jA own;go_upto_region 10 with(fail)
     have HT0:=sH hT;refine cF (fun W=>TxB W tb ⟨t,sq,f,l,Ap,cp⟩) (fun W=>TxB W tb ⟨t,sq,f,l,Ap,cp⟩∧bP 69 W g∧TxB W rb tx0∧Fr (some g) w W∧W.ownsRow (tb+1) 49 12 (.slice Ap l.length cp) l.length (flR opR l)∧kW (tb+1) W (.slice Ap l.length cp) l∧tb<W.heap.size) [3,4,5,7] [0,1,2,3,4,5,6,7] 49 [none,some 47,some 46,some 45,some 44,some 43,some 42,some 41] (by kernel_rfl) (by kernel_rfl) (by kernel_rfl) (Nat.le_refl _) (show(fun W=>TxB W tb ⟨t,sq,f,l,Ap,cp⟩∧bP 69 W g∧TxB W rb tx0∧Fr (some g) w W∧W.ownsRow (tb+1) 49 12 (.slice Ap l.length cp) l.length (flR opR l)∧kW (tb+1) W (.slice Ap l.length cp) l∧tb<W.heap.size) _ from(by exact⟨HT0.out,hS.drew,hR,FX.drew,own.drew,HP,hTl⟩)) (fun W h=>h.1) ?_;clear hT hS hR FX own HT0 hTl HP;refine FxP.p [] [5] ?_;have HF1:=sH (fun(w:World) (hS:((fun W=>TxB W tb ⟨t,sq,f,l,Ap,cp⟩)) w)=>bD hS);refine FxP.q HF1.out [(0,0,41)] [] ?_;refine FxP.p [] [0] ?_;refine FxP.call (f:=?_) (args:=?_) (fun v W=>TxB W tb ⟨t,sq,f,l,Ap,cp⟩∧∃z:OpX,v= .agg (opL z.o z.v).toArray∧kW (tb+1) W (.slice Ap l.length cp) [z]∧bP 69 W g∧TxB W rb tx0∧Fr (some g) w W∧W.ownsRow (tb+1) 49 12 (.slice Ap l.length cp) l.length (flR opR l)∧kW (tb+1) W (.slice Ap l.length cp) l∧tb<W.heap.size) rfl rfl rfl (by kernel_rfl) (fun ev w hS E=>?_) (fun w hS=>?_) (fun v W h=>h.1) ?_;rotate_left 2
     ·obtain⟨t43,ec,ef,eg⟩:=E.get [(0,2,43)] [] (by kernel_rfl);clear E;simp only[aG] at t43;go_simp;first|(refine And.intro ?_ ?_<;>with_reducible rfl)|with_reducible rfl
     ·refine(Ad g w hS.2.1).mono ?_;rintro e w2 ⟨z,rfl,z1,z2,z3,S2,F2⟩;obtain⟨q1,q2,q3,q4,q5,q6,q7⟩:=hS;exact⟨_,rfl,q1.fr F2 (by intro e;injection e with e;omega),z,rfl,(fun y hy=>by rw[List.mem_singleton.1 hy];exact⟨z3,z1,z2.1.keep (yB (by omega) (fun b hb=>(q5.lt b hb).2)),z2.2⟩),S2,q3.fr F2 (by intro e;injection e with e;omega),q4.same F2,aR q5 F2 (fun b hb=>by injection hb with hb;omega),q6.keep (jQ F2 (fun b hb=>by injection hb with hb;omega)),Nat.lt_of_lt_of_le q7 F2.size⟩
     rintro v44 wq hT44;clear hT44 wq;refine FxP.new (fun u W=>TxB W tb ⟨t,sq,f,l,Ap,cp⟩∧∃(z:OpX) (bk:Nat),u= .slice (some ⟨bk,0,none⟩) 1 1∧W.heap[bk]?=some (.cells (opL z.o z.v).toArray 49 (0,0))∧kW (tb+1) W (.slice Ap l.length cp) [z]∧bP 69 W g∧TxB W rb tx0∧Fr (some g) w W∧W.ownsRow (tb+1) 49 12 (.slice Ap l.length cp) l.length (flR opR l)∧kW (tb+1) W (.slice Ap l.length cp) l∧tb<W.heap.size) rfl rfl rfl (by kernel_rfl) (fun ev w hS E=>?_) (fun v W h=>h.1) ?_
     ·obtain⟨t44,ec,ef,eg⟩:=E.get [(0,3,44)] [] (by kernel_rfl);clear E;simp only[aG] at t44;obtain⟨q1,z,rfl,q8,q2,q3,q4,q5,q6,q7⟩:=hS;simp only[opL,OpX.v] at t44;refine⟨?_,?_,?_,?_⟩;rotate_left 2
      ·go_simp;first|(refine And.intro ?_ ?_<;>with_reducible rfl)|with_reducible rfl
      have FA:=(Fr.refl none w).alloc (.cells (opL z.o z.v).toArray 49);exact⟨q1.fr FA,z,w.heap.size,rfl,aD _ _,q8.keep (jQ FA (by simp)),q2.fr FA,q3.fr FA,q4.pure FA,aR q5 FA (by simp),q6.keep (jQ FA (by simp)),Nat.lt_of_lt_of_le q7 FA.size⟩
     rintro v45 wq hT45;clear hT45 wq;refine FxP.new (fun u W=>TxB W tb ⟨t,sq,f,l,Ap,cp⟩∧∃(z:OpX) (A':Option Addr) (c':Nat),u= .slice A' (l.length+1) c'∧bP 69 W g∧TxB W rb tx0∧Fr (some g) w W∧W.ownsRow (tb+1) 49 12 (.slice A' (l.length+1) c') (l.length+1) (flR opR (l++[z]))∧kW (tb+1) W (.slice A' (l.length+1) c') (l++[z])∧tb<W.heap.size) rfl rfl rfl (by kernel_rfl) (fun ev w hS E=>?_) (fun v W h=>h.1) ?_
     ·obtain⟨t42,t45,ec,ef,eg⟩:=E.get [(3,1,42),(0,4,45)] [] (by kernel_rfl);clear E;simp only[aG] at t42 t45;obtain⟨q1,z,bk,rfl,hbk,q8,q2,q3,q4,q5,q6,q7⟩:=hS;refine yM GT (.tmp 42) (.tmp 45) rfl (tb+1) Ap l.length cp (flR opR l) t42 q5 _ 1 1 _ t45 (yL hbk 1 12 rfl (by unfold maxLen;omega)) (sU _ _ _ _) (by omega) (by unfold maxLen;omega) (by omega) ?_;intro A' c' w' own' F' nb;exact⟨q1.fr F' (gF q5 (by omega)),z,A',c',rfl,q2.frs F' (fun b e=>by have:=bH q5 b e;omega),q3.fr F' (gF q5 (by omega)),q4.own F' (fun b e=>by have:=bH q5 b e;omega),by rw[cV];exact own',(q6.snoc q8).keep (sO F' nb),Nat.lt_of_lt_of_le q7 F'.size⟩
     rintro v46 wq hT46;clear hT46 wq;refine FxP.p [] [5] ?_;refine FxP.store (S':=(fun W=>∃(z:OpX) (A':Option Addr) (c':Nat),TxB W tb ⟨t,sq,f,l++[z],A',c'⟩∧bP 69 W g∧TxB W rb tx0∧Fr (some g) w W∧W.ownsRow (tb+1) 49 12 (.slice A' (l.length+1) c') (l.length+1) (flR opR (l++[z]))∧kW (tb+1) W (.slice A' (l.length+1) c') (l++[z])∧tb<W.heap.size)) rfl rfl rfl (by kernel_rfl) (fun ev w hS E=>?_) (fR.new (G':=fun _=>True) (by kernel_rfl) (fun _ _=>trivial)) ?_
     ·obtain⟨q1,z,A',c',rfl,q2,q3,q4,q5,q6,q7⟩:=hS;have hz:=eR q1;obtain⟨c0,c1,c2,c3⟩:=bD q1;obtain⟨t47,t46,ec,ef,eg⟩:=E.get [(0,6,47),(1,5,46)] [] (by kernel_rfl);clear E;simp only[aG] at t47 t46;refine⟨?_,?_,?_⟩;rotate_left
      ·go_simp;try with_reducible rfl
      have G:Fr (some tb) w _:=Fr.set1 w ⟨tb,3,none⟩ (.slice A' (l.length+1) c');refine⟨z,A',c',?_,q2.frs G (fun b e=>by injection e with e;omega),q3.fr G (by intro e;injection e with e;omega),q4.new G (by omega),aR q5 G (fun b hb=>by injection hb with hb;omega),q6.keep (jQ G (fun b hb=>by injection hb with hb;omega)),Nat.lt_of_lt_of_le q7 G.size⟩;have hq:=aI q1 3 (.slice A' (l.length+1) c');unfold TxB txC TxX.v;simp only[List.length_append,List.length_cons,List.length_nil];exact hq
     refine FxP.done (fun W hW=>?_);simp only[bF];try simp only[sI]
     obtain⟨z,A',c',q1,q2,q3,q4,q5,q6,q7⟩:=hW;go_wp2_with fail;go_roundw
     case rel=>exact⟨j - 1,l++[z],A',c',by go_num,by omega,by rw[List.length_append];simp only[List.length_cons,List.length_nil];omega,q1,q2,q3,q4,by rw[List.length_append];exact q5,by rw[List.length_append];exact q6,q7⟩
     case measure=>simp[intOf];omega
    have hl2:1≤l.length∧l.length≤3:=by omega
    obtain⟨c0,c1,c2,c3⟩:=bD hT;dsimp only at c0 c1 c2 c3;have el:=hR.lt;have HOW:=sH own;have HPP:=sH HP;clear own HP;have hz:=eR hR;obtain⟨e0,e1,e2,e3⟩:=bD hR;simp only[tx0,List.length_nil] at e0 e1 e2 e3;go_wp2_with fail;generalize hW5:World.setCell _ _ _=w9';obtain⟨R9,G9⟩:=DL hR ⟨t,sq,f,l,Ap,cp⟩ w9' hW5.symm;clear hW5 e0 e1 e2 e3;obtain⟨e0,e1,e2,e3⟩:=bD R9;dsimp only at e0 e1 e2 e3;refine bodyPost_ret (v:=txV ⟨t,sq,f,l,Ap,cp⟩) (by simp[results,Tryz.results9,go_sem,txV,txC,TxX.v,e0,e1,e2,e3]) rfl ?_;refine⟨⟨t,sq,f,l,Ap,cp⟩,rfl,⟨t1,t2⟩,⟨s1,s2⟩,hf,hl2,fun z hz=>(HPP.out z hz).2.1,⟨(SlN.of_own (R:=opR) (aR HOW.out G9 (fun b hb=>by injection hb with hb;omega)) (fun z hz=>(HPP.out z hz).1)).mono (by omega),fun z hz=>?_⟩,hS.frs G9 (fun b e=>by injection e with e;omega),FX.new G9 (by omega)⟩;have hq:=HPP.out z hz;exact⟨(hq.2.2.1.keep (jQ G9 (fun b hb=>by injection hb with hb;omega))).keep (fun b hb=>⟨⟨by have:=hb.1;omega,hb.2.1⟩,rfl⟩),hq.2.2.2⟩
def Hh(t:TxX):Prop:=t.ops.length≤1000∧∀x ∈ t.ops,x.o.path.length≤1000
def Tab(w:World):Prop:=Lib.TabIs Tryz.prog w "internal/strconv.uint64pow10" .u64 Lib.pow10Tab
theorem mO:Tryz.prog.globalNamed "internal/strconv.uint64pow10"=some 5:=by kernel_rfl
theorem Tab.cells{w:World}(h:Tab w):5<w.heap.size∧∃cs t fz,w.heap[5]?=some (.cells cs t fz)∧cs.size=20:=by
 unfold Tab Lib.TabIs World.var? at h;rw[mO] at h;simp only[Option.bind_some] at h;have hlt:5<w.heap.size:=by
  rcases Nat.lt_or_ge 5 w.heap.size with h'|h'
  ·exact h'
  rw[Array.getElem?_eq_none h'] at h;cases h
 refine⟨hlt,?_⟩;generalize w.heap[5]?=o at h;cases o with
 |none=>cases h
 |some o=>
  cases o with
  |cells cs t fz=>
   refine⟨cs,t,fz,rfl,?_⟩;simp at h;rw[h];simp[Lib.pow10Tab]
  |_=>simp at h
theorem Tab.frs{r:Option Nat}{w w':World}(h:Tab w)(f:Fr r w w')(hr:r≠some 5):Tab w':=by
 have hlt:=h.cells.1;unfold Tab Lib.TabIs World.var? at h ⊢;rw[mO] at h ⊢;simp only[Option.bind_some] at h ⊢;rw[f.block _ hlt (fun e=>hr e.symm)];exact h
theorem Tab.fr{w w':World}(h:Tab w)(f:Fr none w w'):Tab w':=h.frs f (by simp)
theorem Tab.new{w w0 w':World}{g:Nat}(h:Tab w0)(hg:w0.heap.size≤g)(f:Fr (some g) w w')(k:Tab w):Tab w':=k.frs f (by have:=h.cells.1;simp;omega)
theorem Tab.src{w w':World}{T:TypeId}{g:Nat}(h:Tab w)(s:bP T w g)(f:Fr (some g) w w'):Tab w':=by
 refine h.frs f ?_;intro e;injection e with e
 subst e;obtain⟨_,cs,t,fz,h1,h2⟩:=h.cells;obtain⟨v,l,k,h3,_⟩:=s;rw[h3] at h1;injection h1 with h1
 injection h1 with h1 _ _
 rw[←h1] at h2;simp at h2
theorem DY(w:World)(k:Nat)(os:Array Obj):Fr none w (Sort.grow (w.drewN k) os):=
 ⟨rfl,rfl,rfl,by simp[Sort.grow,World.drewN],fun i hi _=>by
  rw[Sort.heap_grow_old _ _ (by simpa[World.drewN] using hi)];rfl⟩
theorem BH(n:Int)(hn:Wi n)(w:World)(hT:Tab w):Calls Tryz.prog 97 #[.int .i64 n] w fun e w'=>∃S:ByteArray,e= .returned (.string S)∧S=⟨(Lib.itoa n).toArray⟩∧S.size≤21∧Fr none w w':=by
 refine(Tryz.strconv_Itoa n hn.1 hn.2 w hT).mono ?_;rintro e w' ⟨rfl,k,os,rfl⟩;refine⟨_,rfl,rfl,?_,DY _ _ _⟩;have:=Lib.itoa_length_le n hn.1 hn.2;simpa[ByteArray.size] using this
end Go.Proofs.YthaggndnfamhjaaGreatDoor
namespace Go.Proofs.YthaggndnfamhjaaGreatDoor
open Go.RowKit Go.Sort
end Go.Proofs.YthaggndnfamhjaaGreatDoor
namespace Go.Proofs.YthaggndnfamhjaaGreatDoor
open Go.RowKit
theorem Tab.below{B:Nat}{w w':World}(h:Tab w)(f:Below B w w')(hb:5<B):Tab w':=by
 unfold Tab Lib.TabIs World.var? at h ⊢;rw[mO] at h ⊢;simp only[Option.bind_some] at h ⊢;rw[f.block _ hb];exact h
theorem eA(a:Ast)(w:World):Calls Tryz.prog 48 #[.agg #[.string (bL a.code),.int .i64 a.iss]] w fun e w'=>e= .returned (.bool (decide (a=nat)))∧Fr none w w':=by
 go_enter Tryz.func48,Tryz.ntmps48;go_wp2_with fail;all_goals
  go_ret;refine⟨aJ ?_,(Fr.refl _ _).alloc _⟩;obtain⟨c,i⟩:=a
  simp_all [nat,bQ]
theorem gD(n:Int)(hn:Wi n)(w:World)(hT:Tab w):Calls Tryz.prog 97 #[.int .i64 n] w fun e w'=>e= .returned (.string (bL (Lib.itoa n)))∧Fr none w w':=by
 refine(BH n hn w hT).mono ?_;rintro e w' ⟨S,rfl,rfl,_,F⟩;exact⟨rfl,F⟩
theorem cK{n:Int}(hn:Wi n):(Lib.itoa n).length≤21:=Lib.itoa_length_le n hn.1 hn.2
theorem BI(a:Ast)(ha:Wi a.iss)(hc:a.code.length≤1000000)(w:World)(hT:Tab w):Calls Tryz.prog 133 #[.agg #[.string (bL a.code),.int .i64 a.iss]] w fun e w'=>e= .returned (.string (bL (Af a)))∧Fr none w w':=by
 go_enter Tryz.func133,Tryz.ntmps133;go_upto_region 1 with(fail)
 generalize hW:w.alloc _=w1;have F1:Fr none w w1:=hW▸(Fr.refl none w).alloc _;have b1:w1.heap[w.heap.size]?=some (.cells #[.string (bL a.code),.int .i64 a.iss] 46 (0,0)):=by rw[←hW];exact aD _ _
 clear hW;have c0:w1.cell? ⟨w.heap.size,0,none⟩=some (.string (bL a.code)):=by rw[aA b1];rfl
 have c1:w1.cell? ⟨w.heap.size,1,none⟩=some (.int .i64 a.iss):=by rw[aA b1];rfl
 go_wp2_with fail;refine(eA a w1).mono ?_;rintro e w2 ⟨rfl,F2⟩;have F02:=F1.pure F2;by_cases hn:a=nat
 ·rw[decide_eq_true hn];have HX:Hid (Af a=[45]):=by unfold Hid Af;rw[if_pos hn]
  clear hn;go_wp2;go_ret;exact⟨by rw[HX.out];rfl,F02⟩
 rw[decide_eq_false hn];have HX:Hid (Af a=a.code++Lib.itoa a.iss):=by unfold Hid Af;rw[if_neg hn]
 clear hn c0 c1;have b2:=aF b1 F2 (by simp);go_upto_region 3 with(fail)
 have HS:Hid (∀W,Fr none w2 W→(W.cell? ⟨w.heap.size,0,none⟩=some (.string (bL a.code))∧W.cell? ⟨w.heap.size,1,none⟩=some (.int .i64 a.iss))∧Fr none w2 W):=fun W F=>⟨⟨by rw[aA (aF b2 F (by simp))];rfl,by rw[aA (aF b2 F (by simp))];rfl⟩,F⟩;have hl:=cK ha;have hs1:(bL a.code).size≤1000000:=by rw[dB];exact hc
 have hs2:(bL (Lib.itoa a.iss)).size≤21:=by rw[dB];exact hl
 have hsum:¬9223372036854775807<(bL a.code).size+(bL (Lib.itoa a.iss)).size:=by omega
 have happ:bL a.code++bL (Lib.itoa a.iss)=bL (Af a):=by rw[Bg,HX.out]
 refine wp_region_held_drew (S:=fun W=>(W.cell? ⟨w.heap.size,0,none⟩=some (.string (bL a.code))∧W.cell? ⟨w.heap.size,1,none⟩=some (.int .i64 a.iss))∧Fr none w2 W) (by kernel_rfl) (HS.out _ (Fr.refl _ _).drew) (fun hH0=>?_);refine sT 0 ?_;try simp only[sI]
 refine sT 1 ?_;try simp only[sI]
 refine sT 2 ?_;try simp only[sI]
 refine sT 3 ?_;try simp only[sI]
 have G0:Fr none w2 w2.drew:=(Fr.refl _ _).drew;generalize w2.drew=wN at*
 refine wpAnyH_ready (rs:=[4]) (by kernel_rfl) (by simp) ?_;refine AllReadyH.cons rfl (fun K hK=>?_) AllReadyH.nil;simp only[sJ];go_simp;go_at_call 97;refine(gD a.iss ha _ ((hT.fr F02).fr G0)).mono ?_;rintro e w3 ⟨rfl,F3⟩;have G3:=G0.pure F3;refine hK.out _ _ (HS.out _ G3) (fun hH9=>?_);clear hK K hH0;have hH0:=hH9;clear hH9;try simp only[sI]
 refine sT 5 ?_;try simp only[sI]
 refine sT 6 ?_;try simp only[sI]
 refine wpAnyH_done (by kernel_rfl) ?_ _;go_wp2;go_ret;exact⟨rfl,F02.pure G3⟩
theorem BJ:cH Tryz.prog 117 9 1 16:=cH.mk_ (z:=.string ⟨#[]⟩) (by kernel_rfl) (by kernel_rfl) rfl (by omega)
theorem Iv(c:UInt8)(x:List UInt8)(hx:x.length≤1000000)(w:World):(Op.stringOp .add ⟨#[c]⟩ (bL x)).run Tryz.prog w= .ok (.string (bL (c::x))) w:=by
 have h:=run_string_add_sum (P:=Tryz.prog) w ⟨#[c]⟩ (bL x) (by rw[dB];have:(⟨#[c]⟩:ByteArray).size=1:=rfl;omega);rw[h,show(⟨#[c]⟩:ByteArray)=bL [c] from rfl,Bg];rfl
theorem mP(c:UInt8)(l:List (List UInt8))(v:Value)(D:Nat→Prop)(w:World)(h:SlD w D 1 v (l.map fun x=>Value.string (bL x)))(hD:∀b,D b→b<w.heap.size)(hN:l.length≤1000000)(hlen:(Lib.join l [c]).length≤1000000000):
  Calls Tryz.prog 99 #[v,.string ⟨#[c]⟩] w fun e w'=>e= .returned (.string (bL (Lib.join l [c])))∧Fr none w w':=by
 obtain⟨A,n,k,rfl,hl,hnc,hm,hx⟩:=h;simp only[List.length_map,Nat.mul_one] at hl;subst hl;have hmap:(l.map bL).map (·.data.toList)=l:=by
  rw[List.map_map];exact(List.map_congr_left (fun x _=>fX x)).trans (List.map_id l)
 rcases Nat.eq_zero_or_pos l.length with h0|h0
 ·have hl0:l=[]:=List.eq_nil_of_length_eq_zero h0;subst hl0;refine(Tryz.strings_Join_none A k ⟨#[c]⟩ w).mono ?_;rintro e w' ⟨rfl,rfl⟩;exact⟨rfl,Fr.refl _ _⟩
 obtain⟨b,off,rfl,hb,hc⟩:=hx h0;have main:=Tryz.strings_Join b off k (l.map bL) ⟨#[c]⟩ w (fun j x hj=>hc j _ (by
  rw[List.getElem?_map] at hj ⊢;cases hq:l[j]? with
  |none=>rw[hq] at hj;cases hj
  |some y=>rw[hq] at hj;injection hj with hj;rw[←hj];rfl)) (hD b hb) (by simp;omega) (by simpa using hnc) (by rw[hmap];show(Lib.join l [c]).length≤_;omega)
 rw[hmap,List.length_map] at main;refine main.mono ?_;rintro e w' ⟨rfl,F⟩;exact⟨rfl,Fr.of_below F⟩
theorem nZ(sep:List UInt8)(hs:sep.length≤1)(m:Nat):∀l:List (List UInt8),(∀x ∈ l,x.length≤m)→(Lib.join l sep).length≤l.length*(m+1)
 |[],_=>by rw[Lib.join_nil];simp
 |x::r,h=>by
  rw[Lib.join_cons,List.length_append,List.length_cons];have h1:=h x (by simp);have:(Lib.joinTail sep r).length≤r.length*(m+1):=by
   have key:∀r:List (List UInt8),(∀y ∈ r,y.length≤m)→(Lib.joinTail sep r).length≤r.length*(m+1):=by
    intro r;induction r with
    |nil=>intro _;simp[Lib.joinTail]
    |cons y t ih=>
     intro hr;have h2:=ih (fun z hz=>hr z (by simp[hz]));have h3:=hr y (by simp);unfold Lib.joinTail at h2 ⊢;simp only[List.map_cons,List.flatten_cons,List.length_append,List.length_cons];rw[Nat.succ_mul];omega
   exact key r (fun y hy=>h y (by simp[hy]))
  rw[Nat.succ_mul];omega
theorem Gd(l:List UInt8)(k:Nat)(h:k<(bL l).size):(bL l)[k]'h=l[k]'(by rw[dB] at h;exact h):=by
 rfl
theorem bT(a:Ast)(w:World):Calls Tryz.prog 88 #[.agg #[.string (bL a.code),.int .i64 a.iss]] w fun e w'=>e= .returned (.bool (aV a))∧Fr none w w':=by
 obtain⟨V,hV⟩:∃V,V=aV a:=⟨_,rfl⟩;rw[←hV];have HV:=sH hV;clear hV;go_enter Tryz.func88,Tryz.ntmps88;go_upto_region 1 with(fail)
 generalize hW:w.alloc _=w1;have F1:Fr none w w1:=hW▸(Fr.refl none w).alloc _;have b1:w1.heap[w.heap.size]?=some (.cells #[.string (bL a.code),.int .i64 a.iss] 46 (0,0)):=by rw[←hW];exact aD _ _
 clear hW;have c0:w1.cell? ⟨w.heap.size,0,none⟩=some (.string (bL a.code)):=by rw[aA b1];rfl
 have c1:w1.cell? ⟨w.heap.size,1,none⟩=some (.int .i64 a.iss):=by rw[aA b1];rfl
 go_wp2_with fail;refine(eA a w1).mono ?_;rintro e w2 ⟨rfl,F2⟩;have FF:=F1.pure F2;by_cases hn:a=nat
 ·rw[decide_eq_true hn];have HX:Hid (V=true):=by unfold Hid;rw[HV.out];unfold aV;rw[decide_eq_true hn];rfl
  clear hn;go_wp2;go_ret;exact⟨cZ HX.out.symm,FF⟩
 rw[decide_eq_false hn];have HV2:Hid (V=(decide (1≤a.code.length∧a.code.length≤4∧1≤a.iss∧a.iss≤1000)&&a.code.all fun c=>decide (65≤c.toNat∧c.toNat≤90))):=by unfold Hid;rw[HV.out];unfold aV;rw[decide_eq_false hn];rfl
 clear hn c0 c1 HV;have b2:=aF b1 F2 (by simp);have c0:w2.cell? ⟨w.heap.size,0,none⟩=some (.string (bL a.code)):=by rw[aA b2];rfl
 have hsz0:Hid ((bL a.code).size=a.code.length):=dB _;go_wp2_with fail;clear c0;go_loopw [] (fun wr=>∃k:Nat,k≤a.code.length∧wr=w2.iter (bL a.code) k∧Hid (∀c ∈ a.code.take k,65≤c.toNat∧c.toNat≤90)) (fun wr=>a.code.length - wr.iterPos w2.heap.size)
 case atStart=>exact⟨0,by omega,rfl,sH (by simp)⟩
 case round=>
  obtain⟨k,hk,rfl,HA⟩:=hrel;have FI:Fr none w2 (w2.iter (bL a.code) k):=(Fr.refl none w2).alloc _;by_cases hlt:k<a.code.length
  ·have hks:k<(bL a.code).size:=by rw[hsz0.out];exact hlt
   have hge:=Gd a.code k hks;have HBad:Hid (¬(65≤(a.code[k]).toNat∧(a.code[k]).toNat≤90)→V=false):=fun h=>by
    rw[HV2.out];have:(a.code.all fun c=>decide (65≤c.toNat∧c.toNat≤90))=false:=by
     rw[List.all_eq_false];exact⟨a.code[k],List.getElem_mem hlt,by simpa using h⟩
    rw[this,Bool.and_false]
   have HGood:Hid ((65≤(a.code[k]).toNat∧(a.code[k]).toNat≤90)→∀c ∈ a.code.take (k+1),65≤c.toNat∧c.toNat≤90):=fun h c hc=>by
    rw[List.take_succ_eq_append_getElem hlt] at hc;rcases List.mem_append.1 hc with hc|hc
    ·exact HA.out c hc
    obtain rfl:=List.mem_singleton.1 hc;exact h
   by_cases ha:(a.code[k]).toNat<128
   ·have hnx:=fun ty=>run_next_ascii (P:=Tryz.prog) w2 (bL a.code) k ty hks (by rw[hge];exact ha);rw[hge] at hnx;generalize a.code[k]=x at*
    by_cases h1:65≤x.toNat
    ·by_cases h2:x.toNat≤90
     ·have HX:=sH (HGood.out ⟨h1,h2⟩);go_wp2_with fail;go_roundw
      case rel=>exact⟨k+1,hlt,rfl,HX⟩
      case measure=>simp;omega
     have HX:=sH (HBad.out (fun e=>h2 e.2));have FF:=FF.pure ((Fr.refl none w2).alloc (.stringIter (bL a.code) (k+1)));go_wp2;go_ret;exact⟨cZ HX.out.symm,FF⟩
    have HX:=sH (HBad.out (fun e=>h1 e.1));have FF:=FF.pure ((Fr.refl none w2).alloc (.stringIter (bL a.code) (k+1)));go_wp2;go_ret;exact⟨cZ HX.out.symm,FF⟩
   have hnx:=fun ty=>run_next_any (P:=Tryz.prog) w2 (bL a.code) k ty hks;have hd:=(decode_high (bL a.code) k hks (by rw[hge];omega)).1;have hd2:=decode_le (bL a.code) k;have HX:=sH (HBad.out (fun e=>by omega));have FF:=FF.pure ((Fr.refl none w2).alloc (.stringIter (bL a.code) (k+(Utf8.decode (bL a.code) k).2)));generalize(Utf8.decode (bL a.code) k)=D at*
   obtain⟨r,d⟩:=D;simp only at hd hd2 hnx FF;clear hge ha HBad HGood hks;go_wp2;go_ret;exact⟨cZ HX.out.symm,FF⟩
  obtain rfl:k=a.code.length:=by omega
  have hnx:=fun ty=>run_next_end (P:=Tryz.prog) w2 (bL a.code) a.code.length ty (by rw[hsz0.out];omega);have hall:(a.code.all fun c=>decide (65≤c.toNat∧c.toNat≤90))=true:=by
   rw[List.all_eq_true];intro c hc;rw[decide_eq_true_iff];exact HA.out c (by rw[List.take_length];exact hc)
  have HV3:Hid (V=decide (1≤a.code.length∧a.code.length≤4∧1≤a.iss∧a.iss≤1000)):=by unfold Hid;rw[HV2.out,hall,Bool.and_true]
  have b3:=aF b2 FI (by simp);have c0:(w2.iter (bL a.code) a.code.length).cell? ⟨w.heap.size,0,none⟩=some (.string (bL a.code)):=by rw[aA b3];rfl
  have c1:(w2.iter (bL a.code) a.code.length).cell? ⟨w.heap.size,1,none⟩=some (.int .i64 a.iss):=by rw[aA b3];rfl
  have FF:=FF.pure FI;have hsz:=hsz0.out;clear hall HA HV2 b3 FI hlt hk;by_cases h1:1≤a.code.length
  ·by_cases h2:a.code.length≤4
   ·by_cases h3:1≤a.iss
    ·by_cases h4:a.iss≤1000
     ·have HX:Hid (V=true):=by unfold Hid;rw[HV3.out];exact decide_eq_true ⟨h1,h2,h3,h4⟩
      go_wp2;go_ret;exact⟨cZ HX.out.symm,FF⟩
     have HX:Hid (V=false):=by unfold Hid;rw[HV3.out];exact decide_eq_false (fun e=>h4 e.2.2.2)
     go_wp2;go_ret;exact⟨cZ HX.out.symm,FF⟩
    have HX:Hid (V=false):=by unfold Hid;rw[HV3.out];exact decide_eq_false (fun e=>h3 e.2.2.1)
    go_wp2;go_ret;exact⟨cZ HX.out.symm,FF⟩
   have HX:Hid (V=false):=by unfold Hid;rw[HV3.out];exact decide_eq_false (fun e=>h2 e.2.1)
   go_wp2;go_ret;exact⟨cZ HX.out.symm,FF⟩
  have HX:Hid (V=false):=by unfold Hid;rw[HV3.out];exact decide_eq_false (fun e=>h1 e.1)
  go_wp2;go_ret;exact⟨cZ HX.out.symm,FF⟩
theorem pM{α:Type}(p:α→Bool)(l:List α):decide (0≤dG p l)=l.any p:=by
 rw[Bool.eq_iff_iff,decide_eq_true_iff,List.any_eq_true];rcases fI p l with⟨h1,h2⟩|⟨k,hk,h1,h2,h3⟩
 ·rw[h1];constructor
  ·intro h;omega
  rintro⟨x,hx,hp⟩;have:=List.find?_eq_none.1 h2 x hx;exact absurd hp this
 rw[h1];constructor
 ·intro _;exact⟨l[k],List.getElem_mem hk,h3⟩
 intro _;omega
theorem tw5{p:Prop}(h:p:=by
 clear hcc;go_wp2_with fail;refine(HFk wr F).mono ?_;rintro e w2 ⟨rfl,F2⟩;clear HFk c0 c1;cases hv:p y with
 |false=>
  have HV:=sH hv;clear hv;go_wp2_with fail;go_roundw
  case rel=>exact⟨k+1,by omega,by go_num,F.pure F2,fun j hj hjk=>by
   rcases Nat.lt_or_ge j k with hh|hh
   ·exact HN.out j hj hh
   obtain rfl:j=k:=by omega
   rw[←HY.out];exact HV.out⟩
  case measure=>simp[intOf];omega
 |true=>
  have HV:=sH hv;clear hv;have HX:Hid (dG p l=(k:Int)):=nV hlt (by rw[←HY.out];exact HV.out) HN.out;go_wp2;go_ret;exact⟨by rw[HX.out];rfl,F.pure F2⟩):p:=h
theorem DZ(p:Ast→Bool)(f:FuncId)(caps:Array Value)(hrun:∀args w,Sem.run Tryz.prog (callFunc f args) w= .ok (.enter f args) w)(l:List Ast)(v:Value)(w:World)(h:SlR cB w none v l)
  (hf:∀y ∈ l,∀W,Fr none w W→Calls Tryz.prog f (#[.agg (cB.enc y).toArray]++caps) W fun e W'=>e= .returned (.bool (p y))∧Fr none W W'):Calls Tryz.prog 172 #[v,.func (.func f) #[] caps] w fun e w'=>e= .returned (.int .i64 (dG p l))∧Fr none w w':=by
 obtain⟨A,c,rfl,q1,q2,hc⟩:=h.open_;have HC:=sH hc;have HF:=sH hf;clear h hc hf;go_enter Tryz.func172,Tryz.ntmps172;go_wp2_with fail;go_loopw [8] (fun s8 wr=>∃k:Nat,k≤l.length∧s8= .int .i64 (k:Int)∧Fr none w wr∧Hid (∀j (hj:j<l.length),j<k→p l[j]=false)) (fun s8 _=>l.length - (intOf s8).toNat)
 case atStart=>exact⟨0,Nat.zero_le _,rfl,Fr.refl _ _,sH (fun j hj h=>by omega)⟩
 case round=>
  obtain⟨k,hk,rfl,F,HN⟩:=hrel;by_cases hlt:k<l.length
  ·obtain⟨b,off,rfl,hb,_,hcc⟩:=HC.out (by omega);have hcc:=hcc k hlt;have HFk:=HF.out l[k] (List.getElem_mem hlt);obtain⟨y,hy⟩:∃y,y=l[k]:=⟨_,rfl⟩;rw[←hy] at hcc HFk;have HY:=sH hy;clear hy;have c0:World.cell? wr ⟨b,off+k*2,none⟩=some (.string (bL y.code)):=F.keep (hcc 0 _ rfl);have c1:World.cell? wr ⟨b,off+k*2+1,none⟩=some (.int .i64 y.iss):=F.keep (hcc 1 _ rfl);exact tw5
  obtain rfl:k=l.length:=by omega
  have HX:Hid (dG p l= -1):=eY fun j hj=>HN.out j hj hj;go_wp2;go_ret;exact⟨by rw[HX.out];rfl,F⟩
theorem Ea(p:Ast→Bool)(f:FuncId)(caps:Array Value)(hrun:∀args w,Sem.run Tryz.prog (callFunc f args) w= .ok (.enter f args) w)(l:List Ast)(v:Value)(w:World)(h:SlR cB w none v l)
  (hf:∀y ∈ l,∀W,Fr none w W→Calls Tryz.prog f (#[.agg (cB.enc y).toArray]++caps) W fun e W'=>e= .returned (.bool (p y))∧Fr none W W'):Calls Tryz.prog 139 #[v,.func (.func f) #[] caps] w fun e w'=>e= .returned (.bool (l.any p))∧Fr none w w':=by
 have HF:=sH hf;clear hf;obtain⟨A,c,hv,q1,q2,_⟩:=h.open_;subst hv;go_enter Tryz.func139,Tryz.ntmps139;go_wp2_with fail;refine(DZ p f caps hrun l _ w h HF.out).mono ?_;rintro e w2 ⟨rfl,F2⟩;have HX:Hid (decide (0≤dG p l)=l.any p):=pM p l;generalize dG p l=i at*
 go_wp2;go_ret;exact⟨aJ HX.out,F2⟩
theorem Eb(p:OpX→Bool)(f:FuncId)(caps:Array Value)(hrun:∀args w,Sem.run Tryz.prog (callFunc f args) w= .ok (.enter f args) w)(l:List OpX)(v:Value)(w:World)(h:SlR opR w none v l)
  (hf:∀y ∈ l,∀W,Fr none w W→Calls Tryz.prog f (#[.agg (opR.enc y).toArray]++caps) W fun e W'=>e= .returned (.bool (p y))∧Fr none W W'):Calls Tryz.prog 92 #[v,.func (.func f) #[] caps] w fun e w'=>e= .returned (.int .i64 (dG p l))∧Fr none w w':=by
 obtain⟨A,c,rfl,q1,q2,hc⟩:=h.open_;have HC:=sH hc;have HF:=sH hf;clear h hc hf;go_enter Tryz.func92,Tryz.ntmps92;go_wp2_with fail;go_loopw [8] (fun s8 wr=>∃k:Nat,k≤l.length∧s8= .int .i64 (k:Int)∧Fr none w wr∧Hid (∀j (hj:j<l.length),j<k→p l[j]=false)) (fun s8 _=>l.length - (intOf s8).toNat)
 case atStart=>exact⟨0,Nat.zero_le _,rfl,Fr.refl _ _,sH (fun j hj h=>by omega)⟩
 case round=>
  obtain⟨k,hk,rfl,F,HN⟩:=hrel;by_cases hlt:k<l.length
  ·obtain⟨b,off,rfl,hb,_,hcc⟩:=HC.out (by omega);have hcc:=hcc k hlt;have HFk:=HF.out l[k] (List.getElem_mem hlt);obtain⟨y,hy⟩:∃y,y=l[k]:=⟨_,rfl⟩;rw[←hy] at hcc HFk;have HY:=sH hy;clear hy;have c0:World.cell? wr ⟨b,off+k*12,none⟩=some (.int .i64 y.o.kind):=F.keep (hcc 0 _ rfl);have c1:World.cell? wr ⟨b,off+k*12+1,none⟩=some (.int .i64 y.o.to_):=F.keep (hcc 1 _ rfl);have c2:World.cell? wr ⟨b,off+k*12+2,none⟩=some (.int .i64 y.o.amt):=F.keep (hcc 2 _ rfl);have c3:World.cell? wr ⟨b,off+k*12+3,none⟩=some (.int .i64 y.o.lim):=F.keep (hcc 3 _ rfl);have c4:World.cell? wr ⟨b,off+k*12+4,none⟩=some (.string (bL y.o.ast.code)):=F.keep (hcc 4 _ rfl);have c5:World.cell? wr ⟨b,off+k*12+5,none⟩=some (.int .i64 y.o.ast.iss):=F.keep (hcc 5 _ rfl);have c6:World.cell? wr ⟨b,off+k*12+6,none⟩=some (.string (bL y.o.oth.code)):=F.keep (hcc 6 _ rfl);have c7:World.cell? wr ⟨b,off+k*12+7,none⟩=some (.int .i64 y.o.oth.iss):=F.keep (hcc 7 _ rfl);have c8:World.cell? wr ⟨b,off+k*12+8,none⟩=some (.int .i64 y.o.num):=F.keep (hcc 8 _ rfl);have c9:World.cell? wr ⟨b,off+k*12+9,none⟩=some (.int .i64 y.o.den):=F.keep (hcc 9 _ rfl);have c10:World.cell? wr ⟨b,off+k*12+10,none⟩=some (.int .i64 y.o.id):=F.keep (hcc 10 _ rfl);have c11:World.cell? wr ⟨b,off+k*12+11,none⟩=some (.slice y.A y.o.path.length y.c):=F.keep (hcc 11 _ rfl);exact tw5
  obtain rfl:k=l.length:=by omega
  have HX:Hid (dG p l= -1):=eY fun j hj=>HN.out j hj hj;go_wp2;go_ret;exact⟨by rw[HX.out];rfl,F⟩
theorem Ec(p:OpX→Bool)(f:FuncId)(caps:Array Value)(hrun:∀args w,Sem.run Tryz.prog (callFunc f args) w= .ok (.enter f args) w)(l:List OpX)(v:Value)(w:World)(h:SlR opR w none v l)
  (hf:∀y ∈ l,∀W,Fr none w W→Calls Tryz.prog f (#[.agg (opR.enc y).toArray]++caps) W fun e W'=>e= .returned (.bool (p y))∧Fr none W W'):Calls Tryz.prog 61 #[v,.func (.func f) #[] caps] w fun e w'=>e= .returned (.bool (l.any p))∧Fr none w w':=by
 have HF:=sH hf;clear hf;obtain⟨A,c,hv,q1,q2,_⟩:=h.open_;subst hv;go_enter Tryz.func61,Tryz.ntmps61;go_wp2_with fail;refine(Eb p f caps hrun l _ w h HF.out).mono ?_;rintro e w2 ⟨rfl,F2⟩;have HX:Hid (decide (0≤dG p l)=l.any p):=pM p l;generalize dG p l=i at*
 go_wp2;go_ret;exact⟨aJ HX.out,F2⟩
theorem Ed(p:TxX→Bool)(f:FuncId)(caps:Array Value)(hrun:∀args w,Sem.run Tryz.prog (callFunc f args) w= .ok (.enter f args) w)(l:List TxX)(v:Value)(w:World)(h:SlR txR w none v l)
  (hf:∀y ∈ l,∀W,Fr none w W→Calls Tryz.prog f (#[.agg (txR.enc y).toArray]++caps) W fun e W'=>e= .returned (.bool (p y))∧Fr none W W'):Calls Tryz.prog 100 #[v,.func (.func f) #[] caps] w fun e w'=>e= .returned (.int .i64 (dG p l))∧Fr none w w':=by
 obtain⟨A,c,rfl,q1,q2,hc⟩:=h.open_;have HC:=sH hc;have HF:=sH hf;clear h hc hf;go_enter Tryz.func100,Tryz.ntmps100;go_wp2_with fail;go_loopw [8] (fun s8 wr=>∃k:Nat,k≤l.length∧s8= .int .i64 (k:Int)∧Fr none w wr∧Hid (∀j (hj:j<l.length),j<k→p l[j]=false)) (fun s8 _=>l.length - (intOf s8).toNat)
 case atStart=>exact⟨0,Nat.zero_le _,rfl,Fr.refl _ _,sH (fun j hj h=>by omega)⟩
 case round=>
  obtain⟨k,hk,rfl,F,HN⟩:=hrel;by_cases hlt:k<l.length
  ·obtain⟨b,off,rfl,hb,_,hcc⟩:=HC.out (by omega);have hcc:=hcc k hlt;have HFk:=HF.out l[k] (List.getElem_mem hlt);obtain⟨y,hy⟩:∃y,y=l[k]:=⟨_,rfl⟩;rw[←hy] at hcc HFk;have HY:=sH hy;clear hy;have c0:World.cell? wr ⟨b,off+k*4,none⟩=some (.int .i64 y.src):=F.keep (hcc 0 _ rfl);have c1:World.cell? wr ⟨b,off+k*4+1,none⟩=some (.int .i64 y.seq):=F.keep (hcc 1 _ rfl);have c2:World.cell? wr ⟨b,off+k*4+2,none⟩=some (.int .i64 y.fee):=F.keep (hcc 2 _ rfl);have c3:World.cell? wr ⟨b,off+k*4+3,none⟩=some (.slice y.A y.ops.length y.c):=F.keep (hcc 3 _ rfl);exact tw5
  obtain rfl:k=l.length:=by omega
  have HX:Hid (dG p l= -1):=eY fun j hj=>HN.out j hj hj;go_wp2;go_ret;exact⟨by rw[HX.out];rfl,F⟩
theorem Ee(p:TxX→Bool)(f:FuncId)(caps:Array Value)(hrun:∀args w,Sem.run Tryz.prog (callFunc f args) w= .ok (.enter f args) w)(l:List TxX)(v:Value)(w:World)(h:SlR txR w none v l)
  (hf:∀y ∈ l,∀W,Fr none w W→Calls Tryz.prog f (#[.agg (txR.enc y).toArray]++caps) W fun e W'=>e= .returned (.bool (p y))∧Fr none W W'):Calls Tryz.prog 71 #[v,.func (.func f) #[] caps] w fun e w'=>e= .returned (.bool (l.any p))∧Fr none w w':=by
 have HF:=sH hf;clear hf;obtain⟨A,c,hv,q1,q2,_⟩:=h.open_;subst hv;go_enter Tryz.func71,Tryz.ntmps71;go_wp2_with fail;refine(Ed p f caps hrun l _ w h HF.out).mono ?_;rintro e w2 ⟨rfl,F2⟩;have HX:Hid (decide (0≤dG p l)=l.any p):=pM p l;generalize dG p l=i at*
 go_wp2;go_ret;exact⟨aJ HX.out,F2⟩
def opV(o:Opr)(v:Value):Value:=.agg (opL o v).toArray
def plV(x:OpX):Value:=.tuple #[opV (plO x.o).1 (if x.o.kind=6 then x.v else .slice none 0 0),.bool (plO x.o).2]
theorem xH(a b:Ast)(w:World):(if(bL a.code).toList=(bL b.code).toList then if a.iss=b.iss then Result.ok (Next.value (Value.bool false)) w else Result.ok (Next.value (Value.bool true)) w else Result.ok (Next.value (Value.bool true)) w)=Result.ok (Next.value (Value.bool (!decide (a=b)))) w:=by
 rw[bQ,bQ];obtain⟨c,i⟩:=a;obtain⟨d,j⟩:=b;by_cases h1:c=d<;>by_cases h2:i=j<;>simp[h1,h2]
theorem Hi(x:OpX)(k:x.o.kind=1):plV x= .tuple #[opV ⟨x.o.kind,x.o.to_,x.o.amt,0,nat,nat,0,0,0,[]⟩ (.slice none 0 0),.bool (inR x.o.to_ 1 1000&&dW x.o.amt)]:=by unfold plV plO;rw[if_pos k,if_neg (by omega),k];rfl
theorem Hj(x:OpX)(k:x.o.kind=2):plV x= .tuple #[opV ⟨x.o.kind,x.o.to_,x.o.amt,0,x.o.ast,nat,0,0,0,[]⟩ (.slice none 0 0),.bool (inR x.o.to_ 1 1000&&(dW x.o.amt&&aV x.o.ast))]:=by unfold plV plO;rw[if_neg (by omega),if_pos k,if_neg (by omega),k];rfl
theorem BK{α:Type}[DecidableEq α](a b:α):decide (a≠b)= !decide (a=b):=by by_cases h:a=b<;>simp[h]
theorem Hk(x:OpX)(k:x.o.kind=3):plV x= .tuple #[opV ⟨x.o.kind,0,x.o.amt,0,x.o.ast,nat,0,0,0,[]⟩ (.slice none 0 0),.bool (aX x.o.amt&&(aV x.o.ast&& !decide (x.o.ast=nat)))]:=by unfold plV plO;rw[if_neg (by omega),if_neg (by omega),if_pos k,if_neg (by omega),BK,k];rfl
theorem Hl(x:OpX)(k:x.o.kind=4):plV x= .tuple #[opV ⟨x.o.kind,0,x.o.amt,0,x.o.ast,x.o.oth,x.o.num,x.o.den,0,[]⟩ (.slice none 0 0),.bool (dW x.o.amt&&(aV x.o.ast&&(aV x.o.oth&&(!decide (x.o.ast=x.o.oth)&&bX x.o.num x.o.den))))]:=by unfold plV plO;rw[if_neg (by omega),if_neg (by omega),if_neg (by omega),if_pos k,if_neg (by omega),BK,k];rfl
theorem Hm(x:OpX)(k:x.o.kind=5):plV x= .tuple #[opV ⟨x.o.kind,0,0,0,nat,nat,0,0,x.o.id,[]⟩ (.slice none 0 0),.bool (inR x.o.id 1 1000000)]:=by unfold plV plO;rw[if_neg (by omega),if_neg (by omega),if_neg (by omega),if_neg (by omega),if_pos k,if_neg (by omega),k];rfl
theorem Hn(x:OpX)(k:x.o.kind=6):plV x= .tuple #[opV ⟨x.o.kind,x.o.to_,x.o.amt,x.o.lim,x.o.ast,x.o.oth,0,0,0,x.o.path⟩ x.v,.bool (inR x.o.to_ 1 1000&&(dW x.o.amt&&(dW x.o.lim&&(aV x.o.ast&&(aV x.o.oth&&gI x.o.path)))))]:=by unfold plV plO;rw[if_neg (by omega),if_neg (by omega),if_neg (by omega),if_neg (by omega),if_neg (by omega),if_pos k,if_pos k,k];rfl
theorem Ho(x:OpX)(k:¬(x.o.kind=1)∧¬(x.o.kind=2)∧¬(x.o.kind=3)∧¬(x.o.kind=4)∧¬(x.o.kind=5)∧¬(x.o.kind=6)):plV x= .tuple #[opV ⟨x.o.kind,0,x.o.amt,0,nat,nat,0,0,0,[]⟩ (.slice none 0 0),.bool false]:=by
 obtain⟨k1,k2,k3,k4,k5,k6⟩:=k;unfold plV plO;rw[if_neg k1,if_neg k2,if_neg k3,if_neg k4,if_neg k5,if_neg k6,if_neg k6];rfl
theorem Ag(a:Ast)(w:World):Calls Tryz.prog 140 #[.agg #[.string (bL a.code),.int .i64 a.iss]] w fun e w'=>e= .returned (.bool (!aV a))∧Fr none w w':=by
 go_enter Tryz.func140,Tryz.ntmps140;go_upto_region 1 with(fail)
 generalize hW:w.alloc _=w1;have F1:Fr none w w1:=hW▸(Fr.refl none w).alloc _;have b1:w1.heap[w.heap.size]?=some (.cells #[.string (bL a.code),.int .i64 a.iss] 46 (0,0)):=by rw[←hW];exact aD _ _
 clear hW;have c0:w1.cell? ⟨w.heap.size,0,none⟩=some (.string (bL a.code)):=by rw[aA b1];rfl
 have c1:w1.cell? ⟨w.heap.size,1,none⟩=some (.int .i64 a.iss):=by rw[aA b1];rfl
 clear b1;go_wp2_with fail;refine(bT a w1).mono ?_;rintro e w2 ⟨rfl,F2⟩;go_wp2;go_ret;exact⟨rfl,F1.pure F2⟩
theorem tC:∀args w,Sem.run Tryz.prog (callFunc 140 args) w= .ok (.enter 140 args) w:=fun _ _=>by kernel_rfl
theorem eB{α:Type}(p:α→Bool)(l:List α):(!l.any fun a=> !p a)=l.all p:=by
 induction l with
 |nil=>rfl
 |cons a r ih=>rw[List.any_cons,List.all_cons,←ih];cases p a<;>simp
theorem vB(l:List Ast)(v:Value)(w:World)(h:SlR cB w none v l):Calls Tryz.prog 105 #[v] w fun e w'=>e= .returned (.bool (gI l))∧Fr none w w':=by
 obtain⟨A,c,hv,q1,q2,_⟩:=h.open_;subst hv;by_cases hl:l.length≤4
 ·have hl':(l.length:Int)≤4:=by omega
  have HL:=sH hl;clear hl;go_enter Tryz.func105,Tryz.ntmps105;go_wp2_with fail;refine(Ea (fun a=> !aV a) 140 #[] tC l _ w h (fun y _ W _=>Ag y W)).mono ?_;rintro e w2 ⟨rfl,F2⟩;have HX:Hid ((!l.any fun a=> !aV a)=gI l):=by unfold Hid gI;rw[eB,decide_eq_true HL.out,Bool.true_and]
  generalize(l.any fun a=> !aV a)=x at*
  go_wp2;go_ret;exact⟨aJ HX.out,F2⟩
 have hl':¬(l.length:Int)≤4:=by omega
 have HX:Hid (gI l=false):=by unfold Hid gI;rw[decide_eq_false hl,Bool.false_and]
 clear hl;go_enter Tryz.func105,Tryz.ntmps105;go_wp2;go_ret;exact⟨aJ HX.out.symm,Fr.refl _ _⟩
theorem lT{a:Ast}(h:aV a=true):(fY a).length≤26:=by
 rcases gK h with rfl|⟨hn,h1,h2,h3,h4⟩
 ·decide
 unfold fY;rw[if_neg hn,List.length_append];have h5:=cK (n:=a.iss) ⟨by omega,by omega⟩;have h6:a.code.length≤4:=by
  unfold aV at h;rw[decide_eq_false hn,Bool.false_or,Bool.and_eq_true,decide_eq_true_iff] at h;exact h.1.2.1
 omega
theorem BL{a:Ast}(h:aV a=true)(w:World)(hT:Tab w):Calls Tryz.prog 133 #[.agg #[.string (bL a.code),.int .i64 a.iss]] w fun e w'=>e= .returned (.string (bL (fY a)))∧Fr none w w':=by
 refine BI a ?_ ?_ w hT
 ·rcases gK h with rfl|⟨hn,h1,h2,h3,h4⟩
  ·constructor<;>decide
  constructor<;>omega
 rcases gK h with rfl|⟨hn,h1,h2,h3,h4⟩
 ·decide
 unfold aV at h;rw[decide_eq_false hn,Bool.false_or,Bool.and_eq_true,decide_eq_true_iff] at h;have:=h.1.2.1;omega
theorem gP{n lo hi:Int}(h1:lo≤n)(h2:n≤hi)(h3: -9223372036854775808≤lo)(h4:hi≤9223372036854775807):Wi n:=⟨by omega,by omega⟩
theorem wz0:Wi (0:Int):=by constructor<;>decide
theorem FJ{o:Opr}(h:vOp o=true):Wi o.to_∧Wi o.amt∧Wi o.lim∧Wi o.num∧Wi o.den∧Wi o.id:=by
 rcases qP h with⟨k,h1,h2,he⟩|⟨k,h1,h2,h3,he⟩|⟨k,h1,h2,he⟩|⟨k,h1,h2,h3,h4,he⟩|⟨k,h1,he⟩|⟨k,h1,h2,h3,h4,h5,h6⟩
 ·rw[←he];exact⟨gP h1.1 h1.2 (by decide) (by decide),gP (show 0≤o.amt by omega) h2.2 (by decide) (by decide),wz0,wz0,wz0,wz0⟩
 ·rw[←he];exact⟨gP h1.1 h1.2 (by decide) (by decide),gP (show 0≤o.amt by omega) h2.2 (by decide) (by decide),wz0,wz0,wz0,wz0⟩
 ·rw[←he];exact⟨wz0,gP h1.1 h1.2 (by decide) (by decide),wz0,wz0,wz0,wz0⟩
 ·rw[←he];exact⟨wz0,gP (show 0≤o.amt by omega) h1.2 (by decide) (by decide),wz0,gP h4.1 h4.2.1 (by decide) (by decide),gP h4.2.2.1 h4.2.2.2 (by decide) (by decide),wz0⟩
 ·rw[←he];exact⟨wz0,wz0,wz0,wz0,wz0,gP h1.1 h1.2 (by decide) (by decide)⟩
 have:=vo6 h k;rw[←this];exact⟨gP h1.1 h1.2 (by decide) (by decide),gP (show 0≤o.amt by omega) h2.2 (by decide) (by decide),gP (show 0≤o.lim by omega) h3.2 (by decide) (by decide),wz0,wz0,wz0⟩
theorem BM{o:Opr}(h:vOp o=true):aV o.ast=true∧aV o.oth=true:=by
 rcases qP h with⟨k,h1,h2,he⟩|⟨k,h1,h2,h3,he⟩|⟨k,h1,h2,he⟩|⟨k,h1,h2,h3,h4,he⟩|⟨k,h1,he⟩|⟨k,h1,h2,h3,h4,h5,h6⟩
 ·rw[←he];exact⟨rfl,rfl⟩
 ·refine⟨h3,?_⟩;rw[←he];rfl
 ·refine⟨h2,?_⟩;rw[←he];rfl
 ·exact⟨h2,h3⟩
 ·rw[←he];exact⟨rfl,rfl⟩
 exact⟨h4,h5⟩
theorem Ef{w w':World}(l:List (List UInt8))(cs:Array Value)(e:TypeId)(hcs:cs.toList=l.map fun x=>Value.string (bL x))(hl:l.length≤1000)(f:Fr none (w.alloc (.cells cs e)) w'):SlD w' (Dm w' none) 1 (.slice (some ⟨w.heap.size,0,none⟩) l.length l.length) (l.map fun x=>Value.string (bL x)):=by
 have:=SlD.lit_dm (r:=none) cs e l.length 1 (by have:=congrArg List.length hcs;simpa using this) (by unfold maxLen;omega) (by simp) f;rw[hcs] at this;exact this
theorem Ah(x:OpX)(w:World)(hx:OpD w none x)(hv:vOp x.o=true)(hk:x.o.kind=2)(hT:Tab w):Calls Tryz.prog 98 #[opV x.o x.v] w fun e w'=>e= .returned (.string (bL (fZ x.o)))∧Fr none w w':=by
 obtain⟨o,PA,pc⟩:=x;have hx:SlR cB w none (.slice PA o.path.length pc) o.path:=hx;dsimp only[OpX.v] at*
 have kk1:(o.kind == 1)=false:=by rw[beq_eq_false_iff_ne];omega
 have kk2:(o.kind == 2)=true:=by rw[beq_iff_eq];exact hk
 obtain⟨wi_to_,wi_amt,wi_lim,wi_num,wi_den,wi_id⟩:=FJ hv;obtain⟨va_ast,va_oth⟩:=BM hv;have HX:Hid (fZ o=Lib.join [112::Lib.itoa o.to_,Lib.itoa o.amt,fY o.ast] [44]):=by unfold Hid fZ iL;rw[if_neg (by omega),if_pos hk]
 have HLN:Hid (∀y ∈ [112::Lib.itoa o.to_,Lib.itoa o.amt,fY o.ast],y.length≤30):=by
  intro y hy;simp only[List.mem_cons,List.not_mem_nil,or_false] at hy;rcases hy with rfl|rfl|rfl
  ·have:=cK wi_to_;simp only[List.length_cons];omega
  ·have:=cK wi_amt;omega
  have:=lT va_ast;omega
 have HT:=sH hT;have HWI:Hid (Wi o.to_∧Wi o.amt∧Wi o.lim∧Wi o.num∧Wi o.den∧Wi o.id):=⟨wi_to_,wi_amt,wi_lim,wi_num,wi_den,wi_id⟩;have HVA:Hid (aV o.ast=true∧aV o.oth=true):=⟨va_ast,va_oth⟩;have HV:=sH hv;have HK:=sH hk;clear hT wi_to_ wi_amt wi_lim wi_num wi_den wi_id va_ast va_oth hv hk;obtain⟨pn,hpn2⟩:∃pn,pn=o.path.length:=⟨_,rfl⟩;rw[←hpn2];have hpn:o.path.length=pn:=hpn2.symm;clear hpn2;have HPN:=sH hpn;clear hpn;unfold opV;simp only[opL];go_enter Tryz.func98,Tryz.ntmps98;go_upto_region 1 with(fail)
 generalize hW:w.alloc _=w1;have F1:Fr none w w1:=hW▸(Fr.refl none w).alloc _;have b1:OpB w1 w.heap.size o (.slice PA pn pc):=by rw[←hW];exact aD _ _
 clear hW;obtain⟨e0,e1,e2,e3,e4,e5,e6,e7,e8,e9,e10,e11⟩:=b1.cells;have HT1:=sH (HT.out.fr F1);clear HT;go_upto_region 7 with(fail)
 clear e0 e1 e2 e3 e4 e5 e6 e7 e8 e9 e10 e11;refine aL (fun W=>Fr none w1 W) 12 114 [some 34,some 33,some 32,some 31,some 30,some 29,some 28,some 27,some 26,some 25,some 24,some 23] (by kernel_rfl) (by kernel_rfl) (by kernel_rfl) (Nat.le_refl _) ((Fr.refl _ _).drew) ?_;refine FxL.p [] [3] ?_;refine FxL.p [] [1] ?_;have HF1:=sH (fun(w:World) (hS:(fun W=>Fr none w1 W) w)=>(b1.fr hS).cells);refine FxL.q HF1.out [(0,1,24)] [] ?_;refine FxL.c [(2,0,23),(0,2,25)] [] (fun w hS=>gD o.to_ HWI.out.1 w (HT1.out.fr hS)) ?_;refine FxL.pure (v:=?_) rfl (fun ev w hS E=>?_) ?_;rotate_left
 ·obtain⟨t26,ec,ef,eg⟩:=E.get [(0,3,26)] [] (by kernel_rfl);clear E;simp only[aG] at t26;have hadd:=Iv 112 (Lib.itoa o.to_) (Nat.le_trans (cK HWI.out.1) (by decide));go_simp;try with_reducible rfl
 refine FxL.p [] [3] ?_;refine FxL.p [] [1] ?_;refine FxL.q HF1.out [(0,6,29)] [] ?_;refine FxL.c [(2,5,28),(0,7,30)] [] (fun w hS=>gD o.amt HWI.out.2.1 w (HT1.out.fr hS)) ?_;refine FxL.p [] [1] ?_;refine FxL.q HF1.out [(0,9,32)] [] ?_;refine FxL.c [(0,10,33)] [] (fun w hS=>BL HVA.out.1 w (HT1.out.fr hS)) ?_;refine FxL.done (fun W hW=>?_);simp only[bF];try simp only[sI]
 try simp only[sK]
 clear HT1;go_wp2_with fail;refine(mP 44 [112::Lib.itoa o.to_,Lib.itoa o.amt,fY o.ast] _ (Dm (W.alloc (.cells #[.string (bL (112::Lib.itoa o.to_)),.string (bL (Lib.itoa o.amt)),.string (bL (fY o.ast))] 9)) none) (W.alloc (.cells #[.string (bL (112::Lib.itoa o.to_)),.string (bL (Lib.itoa o.amt)),.string (bL (fY o.ast))] 9)) (Ef [112::Lib.itoa o.to_,Lib.itoa o.amt,fY o.ast] #[.string (bL (112::Lib.itoa o.to_)),.string (bL (Lib.itoa o.amt)),.string (bL (fY o.ast))] 9 rfl (by simp) (Fr.refl _ _)) (fun b hb=>hb.1) (by simp) (by
  have:=nZ [44] (by simp) 30 [112::Lib.itoa o.to_,Lib.itoa o.amt,fY o.ast] (HLN.out);simp only[List.length_cons,List.length_nil] at this ⊢;omega)).mono ?_
 rintro e w9 ⟨rfl,F9⟩;go_wp2;go_ret;exact⟨by rw[HX.out];rfl,((F1.pure (hW.alloc _))).pure F9⟩
def TxC(o:Opr):Prop:=∀(x:OpX),x.o=o→∀w:World,OpD w none x→vOp x.o=true→Tab w→Calls Tryz.prog 98 #[opV x.o x.v] w fun e w'=>e= .returned (.string (bL (fZ x.o)))∧Fr none w w'
theorem BN{o:Opr}(h:vOp o=true):(fZ o).length≤400:=by
 have key:(iL o).length≤9∧∀y ∈ iL o,y.length≤30:=by
  obtain⟨w1,w2,w3,w4,w5,w6⟩:=FJ h;obtain⟨a1,a2⟩:=BM h;have l1:=cK w1;have l2:=cK w2;have l3:=cK w3;have l4:=cK w4;have l5:=cK w5;have l6:=cK w6;have m1:=lT a1;have m2:=lT a2;unfold iL;rcases qP h with⟨k,_⟩|⟨k,_⟩|⟨k,_⟩|⟨k,_⟩|⟨k,_⟩|⟨k,_,_,_,_,_,h6⟩
  ·rw[if_pos k];refine⟨by simp,fun y hy=>?_⟩;simp only[List.mem_cons,List.not_mem_nil,or_false] at hy;rcases hy with rfl|rfl<;>(try simp only[List.length_cons])<;>omega
  ·rw[if_neg (by omega),if_pos k];refine⟨by simp,fun y hy=>?_⟩;simp only[List.mem_cons,List.not_mem_nil,or_false] at hy;rcases hy with rfl|rfl|rfl<;>(try simp only[List.length_cons])<;>omega
  ·rw[if_neg (by omega),if_neg (by omega),if_pos k];refine⟨by simp,fun y hy=>?_⟩;simp only[List.mem_cons,List.not_mem_nil,or_false] at hy;rcases hy with rfl|rfl<;>(try simp only[List.length_cons])<;>omega
  ·rw[if_neg (by omega),if_neg (by omega),if_neg (by omega),if_pos k];refine⟨by simp,fun y hy=>?_⟩;simp only[List.mem_cons,List.not_mem_nil,or_false] at hy;rcases hy with rfl|rfl|rfl|rfl|rfl<;>(try simp only[List.length_cons])<;>omega
  ·rw[if_neg (by omega),if_neg (by omega),if_neg (by omega),if_neg (by omega),if_pos k];refine⟨by simp,fun y hy=>?_⟩;simp only[List.mem_cons,List.not_mem_nil,or_false] at hy;rw[hy];simp only[List.length_cons];omega
  rw[if_neg (by omega),if_neg (by omega),if_neg (by omega),if_neg (by omega),if_neg (by omega),if_pos k];refine⟨by have:=h6.1;simp;omega,fun y hy=>?_⟩;simp only[List.mem_cons,List.mem_map] at hy;rcases hy with rfl|rfl|rfl|rfl|rfl|⟨a,ha,rfl⟩
  ·simp only[List.length_cons];omega
  ·omega
  ·omega
  ·omega
  ·omega
  have:=lT (h6.2 a ha);omega
 have:=nZ [44] (by simp) 30 (iL o) key.2;unfold fZ;have h9:=key.1;have:(iL o).length*(30+1)≤9*31:=Nat.mul_le_mul_right _ h9;omega
theorem vC(x:OpX)(w:World)(hx:OpD w none x)(hk:¬(x.o.kind=1)∧¬(x.o.kind=2)∧¬(x.o.kind=3)∧¬(x.o.kind=4)∧¬(x.o.kind=5)∧¬(x.o.kind=6)):Calls Tryz.prog 74 #[opV x.o x.v] w fun e w'=>e= .returned (plV x)∧Fr none w w':=by
 obtain⟨o,PA,pc⟩:=x;dsimp only[OpX.v] at*
 have hx:SlR cB w none (.slice PA o.path.length pc) o.path:=hx;generalize hpv:o.path.length=pn at*
 have HPV:=sH hpv;clear hpv;unfold opV;simp only[opL];go_enter Tryz.func74,Tryz.ntmps74;go_upto_region 1 with(fail)
 obtain⟨B,hB⟩:∃B,B=w.heap.size:=⟨_,rfl⟩;rw[←hB];generalize hWa:w.alloc _=wa;have F1:Fr none w wa:=hWa▸(Fr.refl none w).alloc _;have b1:OpB wa B o (.slice PA pn pc):=by rw[←hWa,hB];exact aD _ _
 have sa:B+1=wa.heap.size:=by rw[←hWa,hB];exact(Array.size_push _).symm
 clear hWa;generalize hWb:wa.alloc _=w1;have F2:Fr none wa w1:=hWb▸(Fr.refl none wa).alloc _;have b2:OpB w1 (B+1) op0 (.slice none 0 0):=by rw[←hWb,sa];exact aD _ _
 have b1:=b1.fr F2;have sb:B+2=w1.heap.size:=by rw[←hWb];simp only[World.size_alloc];omega
 have hBw:w.heap.size≤B:=Nat.le_of_eq hB.symm;clear hWb hB sa;have SB:=sH sb;clear sb;have z0:=OpB.free b1 0;have z1:=OpB.free b1 1;have e0:World.cell? w1 ⟨B,0,none⟩=_:=OpB.cell b1 0;have e1:World.cell? w1 ⟨B,1,none⟩=_:=OpB.cell b1 1;have e2:World.cell? w1 ⟨B,2,none⟩=_:=OpB.cell b1 2;have e3:World.cell? w1 ⟨B,3,none⟩=_:=OpB.cell b1 3;have e4:World.cell? w1 ⟨B,4,none⟩=_:=OpB.cell b1 4;have e5:World.cell? w1 ⟨B,5,none⟩=_:=OpB.cell b1 5;have e6:World.cell? w1 ⟨B,6,none⟩=_:=OpB.cell b1 6;have e7:World.cell? w1 ⟨B,7,none⟩=_:=OpB.cell b1 7;have e8:World.cell? w1 ⟨B,8,none⟩=_:=OpB.cell b1 8;have e9:World.cell? w1 ⟨B,9,none⟩=_:=OpB.cell b1 9;have e10:World.cell? w1 ⟨B,10,none⟩=_:=OpB.cell b1 10;have e11:World.cell? w1 ⟨B,11,none⟩=_:=OpB.cell b1 11;have el:=OpB.lt b1;simp only[opL,List.getElem?_cons_zero,List.getElem?_cons_succ] at e0 e1 e2 e3 e4 e5 e6 e7 e8 e9 e10 e11;go_upto_region 2 with(fail)
 obtain⟨C,hC⟩:∃C,C=w1.heap.size:=⟨_,rfl⟩;rw[←hC];generalize hWc:w1.alloc _=w2;have F3:Fr none w1 w2:=hWc▸(Fr.refl none w1).alloc _;have b3:OpB w2 C ⟨o.kind,0,o.amt,0,nat,nat,0,0,0,[]⟩ (.slice none 0 0):=by rw[←hWc,hC];exact aD _ _
 have hCB:B+1<C:=by rw[hC];have:=SB.out;omega
 have b1:=b1.fr F3;have hR:=b2.fr F3;have FF:Fr none w w2:=(F1.pure F2).pure F3;have hBR:w.heap.size≤B+1:=by omega
 have hCw:w.heap.size≤C:=by omega
 have n1:some C≠some B:=fun e=>by have:=Option.some.inj e;omega
 have n2:some C≠some (B+1):=fun e=>by have:=Option.some.inj e;omega
 clear hWc hC z0 z1 e0 e1 e2 e3 e4 e5 e6 e7 e8 e9 e10 e11 el SB F1 F2 F3 b2;have z0:=OpB.free b1 0;have z1:=OpB.free b1 1;have e0:World.cell? w2 ⟨B,0,none⟩=_:=OpB.cell b1 0;have e1:World.cell? w2 ⟨B,1,none⟩=_:=OpB.cell b1 1;have e2:World.cell? w2 ⟨B,2,none⟩=_:=OpB.cell b1 2;have e3:World.cell? w2 ⟨B,3,none⟩=_:=OpB.cell b1 3;have e4:World.cell? w2 ⟨B,4,none⟩=_:=OpB.cell b1 4;have e5:World.cell? w2 ⟨B,5,none⟩=_:=OpB.cell b1 5;have e6:World.cell? w2 ⟨B,6,none⟩=_:=OpB.cell b1 6;have e7:World.cell? w2 ⟨B,7,none⟩=_:=OpB.cell b1 7;have e8:World.cell? w2 ⟨B,8,none⟩=_:=OpB.cell b1 8;have e9:World.cell? w2 ⟨B,9,none⟩=_:=OpB.cell b1 9;have e10:World.cell? w2 ⟨B,10,none⟩=_:=OpB.cell b1 10;have e11:World.cell? w2 ⟨B,11,none⟩=_:=OpB.cell b1 11;have el:=OpB.lt b1;simp only[opL,List.getElem?_cons_zero,List.getElem?_cons_succ] at e0 e1 e2 e3 e4 e5 e6 e7 e8 e9 e10 e11;go_wp2_with fail;refine(cT o.to_ 1 1000 w2).mono ?_;rintro e w3 ⟨rfl,rfl⟩;have hl:=b3.lt;obtain⟨k1,k2,k3,k4,k5,k6⟩:=hk;have kk1:(o.kind == 1)=false:=by rw[beq_eq_false_iff_ne];exact k1
 have kk2:(o.kind == 2)=false:=by rw[beq_eq_false_iff_ne];exact k2
 have kk3:(o.kind == 3)=false:=by rw[beq_eq_false_iff_ne];exact k3
 have kk4:(o.kind == 4)=false:=by rw[beq_eq_false_iff_ne];exact k4
 have kk5:(o.kind == 5)=false:=by rw[beq_eq_false_iff_ne];exact k5
 have kk6:(o.kind == 6)=false:=by rw[beq_eq_false_iff_ne];exact k6
 have hk:¬(o.kind=1)∧¬(o.kind=2)∧¬(o.kind=3)∧¬(o.kind=4)∧¬(o.kind=5)∧¬(o.kind=6):=⟨k1,k2,k3,k4,k5,k6⟩;have HK:=sH hk;clear hk k1 k2 k3 k4 k5 k6;have hzz:=hR.frees;obtain⟨f0,f1,f2,f3,f4,f5,f6,f7,f8,f9,f10,f11⟩:=hR.cells;obtain⟨c0,c1,c2,c3,c4,c5,c6,c7,c8,c9,c10,c11⟩:=b3.cells;dsimp only at c0 c1 c2 c3 c4 c5 c6 c7 c8 c9 c10 c11;go_wp2_with fail;generalize hW5:World.setCell _ _ _=w9;obtain⟨R9,G9⟩:=fS hR ⟨o.kind,0,o.amt,0,nat,nat,0,0,0,[]⟩ (.slice none 0 0) w9 hW5.symm;clear hW5;clear f0 f1 f2 f3 f4 f5 f6 f7 f8 f9 f10 f11 hzz;obtain⟨e0,e1,e2,e3,e4,e5,e6,e7,e8,e9,e10,e11⟩:=R9.cells;dsimp only at e0 e1 e2 e3 e4 e5 e6 e7 e8 e9 e10 e11;refine bodyPost_ret (v:=.tuple #[opV ⟨o.kind,0,o.amt,0,nat,nat,0,0,0,[]⟩ (.slice none 0 0),.bool false]) (by simp[results,Tryz.results74,go_sem,opV,opL,e0,e1,e2,e3,e4,e5,e6,e7,e8,e9,e10,e11]) rfl ?_;refine⟨?_,FF.new G9 hBR⟩;rw[Ho _ HK.out]
end Go.Proofs.YthaggndnfamhjaaGreatDoor
