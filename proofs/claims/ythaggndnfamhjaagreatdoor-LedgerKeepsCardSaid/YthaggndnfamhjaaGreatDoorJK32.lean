/- Texts, joined. -/
import Derived.Test.YthaggndnfamhjaaGreatDoorProg
import Derived.Test.YthaggndnfamhjaaGreatDoorJK14
import Derived.Test.YthaggndnfamhjaaGreatDoorJK30
import Derived.Test.YthaggndnfamhjaaGreatDoorJK31
import Derived.Test.YthaggndnfamhjaaGreatDoorJK4
import Derived.Test.YthaggndnfamhjaaGreatDoorJA

set_option linter.unusedSimpArgs false
set_option linter.unusedVariables false
set_option maxRecDepth 100000
set_option maxHeartbeats 16000000
namespace Go.Proofs.YthaggndnfamhjaaGreatDoor
open Go.RowKit
theorem AK(y:Ln)(acc:Int)(a:Ast)(bx:Nat)(w:World)(h:KyB w bx acc a):Calls Tryz.prog 149 #[.agg #[.int .i64 y.acc,.string (bL y.ast.code),.int .i64 y.ast.iss,.int .i64 y.bal,.int .i64 y.lim],.pointer (some ⟨bx,0,none⟩)] w fun e w'=>e= .returned (.bool (gtL acc a y))∧Fr none w w':=by
 unfold gtL;go_enter Tryz.func149,Tryz.ntmps149;go_upto_region 1 with(fail)
 generalize hW:w.alloc _=w1;have F1:Fr none w w1:=hW▸(Fr.refl none w).alloc _;have b1:LnB w1 w.heap.size y:=by rw[←hW];exact aD _ _
 have b2:=h.fr F1;clear hW h;refine aL (fun W=>Fr none w1 W) 6 9 [some 3,some 8,some 7,some 6,some 5,some 4] (by kernel_rfl) (by kernel_rfl) (by kernel_rfl) (Nat.le_refl _) ((Fr.refl _ _).drew) ?_;have HF1:=sH (fun(w:World) (hS:(fun W=>Fr none w1 W) w)=>And.intro ((b1.fr hS).cells) ((b2.fr hS).cells));refine FxL.q HF1.out [] [2] ?_;refine FxL.c [(0,0,4)] [] (fun w hS=>oE y w) ?_;refine FxL.q HF1.out [] [1] ?_;refine FxL.c [(1,1,5),(0,2,6)] [] (fun w hS=>vV y acc a w) ?_;refine FxL.p [(0,3,7)] [] ?_;refine FxL.p [(0,4,8)] [] ?_;refine FxL.done (fun W hW=>?_);simp only[bF];try simp only[sI]
 try simp only[sK]
 go_wp2;go_ret;exact⟨rfl,F1.pure hW⟩
theorem tU:∀args w,Sem.run Tryz.prog (callFunc 149 args) w= .ok (.enter 149 args) w:=fun _ _=>by kernel_rfl
theorem Gs(a:Ast)(acc lim:Int):(∃va n e l g,va=aV a∧n=decide (a=nat)∧e=(a.iss == acc)∧l=decide (acc<1)∧g=decide (1000<acc)∧((!va||n||e||l||g)=true∧Av a acc lim=71∨(!va||n||e||l||g)=false∧Av a acc lim=if aX lim=false then 65 else 0)):=by
 refine⟨_,_,_,_,_,rfl,rfl,rfl,rfl,rfl,?_⟩;unfold Av;generalize hq:(!aV a||decide (a=nat)||(a.iss == acc)||decide (acc<1)||decide (1000<acc))=q;cases q with
 |true=>
  refine .inl ⟨rfl,if_pos ?_⟩;simp only[Bool.or_eq_true,Bool.not_eq_true',decide_eq_true_eq,beq_iff_eq] at hq;rcases hq with(((hq|hq)|hq)|hq)|hq
  ·exact .inl hq
  ·exact .inr (.inl hq)
  ·exact .inr (.inr (.inl hq))
  ·exact .inr (.inr (.inr (.inl hq)))
  exact .inr (.inr (.inr (.inr hq)))
 |false=>
  refine .inr ⟨rfl,if_neg ?_⟩;simp only[Bool.or_eq_false_iff,Bool.not_eq_false',decide_eq_false_iff_not,beq_eq_false_iff_ne] at hq;obtain⟨⟨⟨⟨h1,h2⟩,h3⟩,h4⟩,h5⟩:=hq;rintro(h|h|h|h|h)
  ·rw[h1] at h;cases h
  ·exact h2 h
  ·exact h3 h
  ·exact h4 h
  exact h5 h
theorem Ct(l:List Ln)(v:Value)(acc:Int)(a:Ast)(lim:Int)(w:World)(h:SlR lnR w none v l)(hl:l.length≤60):Calls Tryz.prog 113 #[v,.int .i64 acc,.agg #[.string (bL a.code),.int .i64 a.iss],.int .i64 lim] w (NwE lnR (lmt l acc a lim) w):=by
 obtain⟨V,hV⟩:∃V,V=lmt l acc a lim:=⟨_,rfl⟩;rw[←hV];unfold lmt at hV;have HV:=sH hV;clear hV;obtain⟨A,c,rfl,q1,q2,hcc⟩:=aU h;have HC:=sH hcc;have HS:=sH h;clear h hcc;obtain⟨xa,xn,xe,xl,xg,ha,hn,he,hll,hg,hE⟩:=Gs a acc lim;have hva:=sH ha;have hna:=sH hn;clear ha hn;go_enter Tryz.func113,Tryz.ntmps113;go_upto_region 1 with(fail)
 generalize hW:w.alloc _=w1;have FA:Fr none w w1:=hW▸(Fr.refl none w).alloc _;have had:dK w1 w.heap.size a:=by rw[←hW];exact aD _ _
 clear hW;obtain⟨k8,k9⟩:=had.cells;go_wp2_with fail;refine(bT a w1).mono ?_;rintro e w2 ⟨rfl,F2⟩;rw[←hva.out];have FA:=FA.pure F2;have had:=had.fr F2;clear F2 k8 k9;obtain⟨k8,k9⟩:=had.cells;have l8:=aC had;replace he:=he.symm;replace hll:=hll.symm;replace hg:=hg.symm;rcases hE with⟨hb,hE⟩|⟨hb,hE⟩
 ·have HX:Hid (V=([],71)):=by unfold Hid;rw[HV.out,hE];rfl
  clear HV hE;cases xa with
  |false=>
   go_wp2_with fail;go_ret2;exact⟨.slice none 0 0,by rw[HX.out];rfl,by rw[HX.out];exact SlD.nil _ _ _,FA⟩
  |true=>
   go_wp2_with fail;refine(eA a w2).mono ?_;rintro e w3 ⟨rfl,F3⟩;rw[←hna.out];have FA:=FA.pure F3;have had:=had.fr F3;clear F3 k8 k9;obtain⟨k8,k9⟩:=had.cells;have l8:=aC had;have HBB:=sH hb;clear hb;cases xn with
   |true=>
    go_wp2_with fail;go_ret2;exact⟨.slice none 0 0,by rw[HX.out];rfl,by rw[HX.out];exact SlD.nil _ _ _,FA⟩
   |false=>
    cases xe with
    |true=>
     go_wp2_with fail;go_ret2;exact⟨.slice none 0 0,by rw[HX.out];rfl,by rw[HX.out];exact SlD.nil _ _ _,FA⟩
    |false=>
     cases xl with
     |true=>
      go_wp2_with fail;go_ret2;exact⟨.slice none 0 0,by rw[HX.out];rfl,by rw[HX.out];exact SlD.nil _ _ _,FA⟩
     |false=>
      cases xg with
      |true=>
       go_wp2_with fail;go_ret2;exact⟨.slice none 0 0,by rw[HX.out];rfl,by rw[HX.out];exact SlD.nil _ _ _,FA⟩
      |false=>exact absurd HBB.out (by decide)
 have hall:xa=true∧xn=false∧xe=false∧xl=false∧xg=false:=by revert hb;cases xa<;>cases xn<;>cases xe<;>cases xl<;>cases xg<;>simp
 obtain⟨rfl,rfl,rfl,rfl,rfl⟩:=hall;clear hb;have HE:=sH hE;clear hE;go_wp2_with fail;refine(eA a w2).mono ?_;rintro e w3 ⟨rfl,F3⟩;rw[←hna.out];have FA:=FA.pure F3;have had:=had.fr F3;clear F3 k8 k9;obtain⟨k8,k9⟩:=had.cells;have l8:=aC had;go_wp2_with fail;refine(cJ lim w3).mono ?_;rintro e w4 ⟨rfl,rfl⟩;have hlv:=@fC lim;generalize aX lim=xv at*
 cases xv with
 |false=>
  have HX:Hid (V=([],65)):=by unfold Hid;rw[HV.out,HE.out];rfl
  go_wp2_with fail;go_ret2;exact⟨.slice none 0 0,by rw[HX.out];rfl,by rw[HX.out];exact SlD.nil _ _ _,FA⟩
 |true=>
  have HV2:Hid (V=match l.findIdx? (isL acc a) with
   |none=>if lim=0 then(l,0) else if 60≤l.length then([],3) else(vR l acc a lim,0)
   |some k=>match l[k]? with
    |none=>([],0)
    |some x=>if lim<x.bal then([],70) else if lim=0∧x.bal=0 then(l.eraseIdx k,0) else(l.set k {x with lim:=lim},0)):=by
   unfold Hid;rw[HV.out,HE.out];rfl
  obtain⟨v1,v2⟩:=hlv.1 rfl;clear HV HE hlv hna hva;go_upto_region 5 with(fail)
  clear k8 k9;refine cF (fun W=>Fr none w4 W) (fun W=>Fr none w4 W) [1,5] [0,2,3,4,1,5,6,7] 111 [some 11,some 10,some 43,some 39,some 42,some 41,some 40,some 38] (by kernel_rfl) (by kernel_rfl) (by kernel_rfl) (Nat.le_refl _) (show(fun W=>Fr none w4 W) _ from(Fr.refl _ _).drew) (fun W h=>(by first|exact h|exact h.1)) ?_;refine FxP.p [] [0] ?_;refine FxP.p [] [0] ?_;refine FxP.p [] [1] ?_;have HF2:=sH (fun(w:World) (hS:((fun W=>Fr none w4 W)) w)=>(had.fr hS).cells);refine FxP.q HF2.out [] [6] ?_;refine FxP.call (f:=?_) (args:=?_) (fun v W=>Fr none w4 W∧∃(A4:Option Addr) (c4:Nat),v= .slice A4 l.length c4∧W.ownsRow w4.heap.size 74 5 (.slice A4 l.length c4) l.length (flR lnR l)) rfl rfl rfl (by kernel_rfl) (fun ev w hS E=>?_) (fun w hS=>?_) (fun v W h=>h.1) ?_;rotate_left 2
  ·obtain⟨t38,ec,ef,eg⟩:=E.get [(3,0,38)] [] (by kernel_rfl);clear E;simp only[aG] at t38;go_simp;first|(refine And.intro ?_ ?_<;>with_reducible rfl)|with_reducible rfl
  ·refine(rQ l _ w (HS.out.fr (FA.pure hS)) (by omega)).mono ?_;rintro e w2 ⟨A4,c4,rfl,ow,F2⟩;exact⟨_,rfl,hS.pure F2,A4,c4,rfl,jB ow hS.size⟩
  rintro v39 wq hT;clear hT wq;refine FxP.callv (v:=?_) (f:=?_) (args:=?_) (S':=(fun W=>Fr none w4 W∧∃(A4:Option Addr) (c4:Nat),v39= .slice A4 l.length c4∧W.ownsRow w4.heap.size 74 5 (.slice A4 l.length c4) l.length (flR lnR l))) rfl rfl rfl (by kernel_rfl) (fun ev w hS E=>?_) (fun w hS=>?_) (fR.stay (fun W h=>(by first|exact h|exact h.1))) ?_;rotate_left 3
  ·obtain⟨t40,t41,t42,ec,ef,eg⟩:=E.get [(3,2,40),(2,3,41),(1,4,42)] [] (by kernel_rfl);clear E;simp only[aG] at t40 t41 t42;go_simp;first|(refine And.intro ?_ ?_<;>with_reducible rfl)|with_reducible rfl
  ·refine(mW l _ acc a w (HS.out.fr (FA.pure hS.1))).mono ?_;rintro e w2 ⟨rfl,F2⟩;obtain⟨hF0,A4,c4,e4,ow⟩:=hS;refine⟨?_,hF0.pure F2,A4,c4,e4,aR ow F2 (by simp)⟩
   with_reducible rfl
  refine FxP.p [(1,1,39)] [] ?_;refine FxP.p [(1,5,43)] [] ?_;refine FxP.done (fun W hW=>?_);simp only[bF];try simp only[sI]
  obtain⟨hF0,A4,c4,rfl,ow⟩:=hW;have FA:=FA.pure hF0;have had:=had.fr hF0;have hbw:w.heap.size≤w4.heap.size:=Nat.le_of_lt l8;have hsz:=hF0.size;have OW:=sH ow;clear ow hF0;rcases fO (p:=isL acc a) (l:=l) with⟨hi,hp⟩|⟨k,hk,hi,hp⟩
  ·have HV3:Hid (V=if lim=0 then(l,0) else if 60≤l.length then([],3) else(vR l acc a lim,0)):=by unfold Hid;rw[HV2.out,hi]
   rw[hp];clear hi hp HV2;by_cases h0:lim=0
   ·have HX:=sH (HV3.out.trans (if_pos h0));have hd:(lim == 0)=true:=by simp[h0]
    clear h0;go_wp2_with fail;go_ret2;exact⟨(.slice A4 l.length c4),by rw[HX.out];rfl,by rw[HX.out];exact((SlD.own_dn OW.out).keep (dH hbw)),FA⟩
   have HV3:=sH (HV3.out.trans (if_neg h0));have hd:(lim == 0)=false:=by simp[h0]
   clear h0;by_cases h6:60≤l.length
   ·have HX:=sH (HV3.out.trans (if_pos h6));have hd6:decide ((60:Int)≤(l.length:Int))=true:=decide_eq_true (by omega);clear h6;go_wp2_with fail;go_ret2;exact⟨.slice none 0 0,by rw[HX.out];rfl,by rw[HX.out];exact SlD.nil _ _ _,FA⟩
   have HX:=sH (HV3.out.trans (if_neg h6));have hd6:decide ((60:Int)≤(l.length:Int))=false:=decide_eq_false (by omega);clear h6;obtain⟨k8,k9⟩:=had.cells;have l8:=aC had;go_upto_region 12 with(fail)
   generalize hW:W.alloc _=w5;have F5:Fr none W w5:=hW▸(Fr.refl none W).alloc _;have HKY:Hid (KyB w5 W.heap.size acc a):=by unfold Hid;rw[←hW];exact aD _ _
   have FA:=FA.pure F5;have had:=had.fr F5;have OW:=sH (aR OW.out F5 (by simp));clear hW k8 k9;go_wp2_with fail;refine(yT (gtL acc a) 149 #[.pointer (some ⟨W.heap.size,0,none⟩)] tU l _ w5 (HS.out.fr FA) (fun y _ W' FW=>AK y acc a W.heap.size W' (HKY.out.fr FW))).mono ?_;rintro e w6 ⟨rfl,F6⟩;have FA:=FA.pure F6;have had:=had.fr F6;have OW:=sH (aR OW.out F6 (by simp));have hs56:=F5.size;have hs67:=F6.size;clear F5 F6 HKY;rcases fO (p:=gtL acc a) (l:=l) with⟨hi,hp⟩|⟨k,hk,hi,hp⟩
   ·have hpos:qG l acc a=l.length:=by unfold qG;rw[hi]
    have HX:Hid (V=(l.take l.length++⟨acc,a,0,lim⟩::l.drop l.length,0)):=by unfold Hid;rw[HX.out];unfold vR;rw[hpos]
    rw[hp];clear hi hp hpos;obtain⟨k8,k9⟩:=had.cells;have l8:=aC had;go_wp2_with fail;have hsa:(w6.alloc (.cells #[.int .i64 acc,.string (bL a.code),.int .i64 a.iss,.int .i64 0,.int .i64 lim] 74)).heap.size=w6.heap.size+1:=Array.size_push _;refine(sC l ⟨acc,a,0,lim⟩ A4 c4 l.length w6.heap.size w4.heap.size _ (by omega) (by omega) (Nat.le_trans (show w4.heap.size≤w6.heap.size+1 by omega) (Nat.le_of_eq (Array.size_push _).symm)) (aR OW.out ((Fr.refl none w6).alloc _) (by simp)) (aD _ _) (fun e=>by have:=bR OW.out e;omega)).mono ?_;rintro e w8 ⟨A8,c8,rfl,ow8,F8⟩;have FA:=(FA.alloc _).own F8 (fun x hx=>by have:=bR OW.out hx;omega);have OW8:=sH ow8;clear ow8 F8 hsa;go_wp2_with fail;go_ret2;exact⟨(.slice A8 (l.length+1) c8),by rw[HX.out];rfl,by rw[HX.out];exact((SlD.own_dn OW8.out).keep (dH hbw)),FA⟩
   have hpos:qG l acc a=k:=by unfold qG;rw[hi]
   have HX:Hid (V=(l.take k++⟨acc,a,0,lim⟩::l.drop k,0)):=by unfold Hid;rw[HX.out];unfold vR;rw[hpos]
   rw[hp];clear hi hp hpos;obtain⟨k8,k9⟩:=had.cells;have l8:=aC had;go_wp2_with fail;have hsa:(w6.alloc (.cells #[.int .i64 acc,.string (bL a.code),.int .i64 a.iss,.int .i64 0,.int .i64 lim] 74)).heap.size=w6.heap.size+1:=Array.size_push _;refine(sC l ⟨acc,a,0,lim⟩ A4 c4 k w6.heap.size w4.heap.size _ (by omega) (by omega) (Nat.le_trans (show w4.heap.size≤w6.heap.size+1 by omega) (Nat.le_of_eq (Array.size_push _).symm)) (aR OW.out ((Fr.refl none w6).alloc _) (by simp)) (aD _ _) (fun e=>by have:=bR OW.out e;omega)).mono ?_;rintro e w8 ⟨A8,c8,rfl,ow8,F8⟩;have FA:=(FA.alloc _).own F8 (fun x hx=>by have:=bR OW.out hx;omega);have OW8:=sH ow8;clear ow8 F8 hsa;go_wp2_with fail;go_ret2;exact⟨(.slice A8 (l.length+1) c8),by rw[HX.out];rfl,by rw[HX.out];exact((SlD.own_dn OW8.out).keep (dH hbw)),FA⟩
  have HV3:Hid (V=if lim<l[k].bal then([],70) else if lim=0∧l[k].bal=0 then(l.eraseIdx k,0) else(l.set k {l[k] with lim:=lim},0)):=by unfold Hid;rw[HV2.out,hi];simp only[List.getElem?_eq_getElem hk]
  rw[hp];clear hi hp HV2;obtain⟨b,off,rfl,hb,_,hcc⟩:=HC.out (by omega);obtain⟨c0,c1,c2,c3,c4'⟩:=hcc k hk;have c3:W.cell? ⟨b,off+k*5+2+1,none⟩=some (.int .i64 l[k].bal):=FA.keep c3;clear c0 c1 c2 c4' hcc;have hkl:(k:Int)<(l.length:Int):=by omega
  have HEN:Hid (lnR.enc l[k]=[.int .i64 l[k].acc,.string (bL l[k].ast.code),.int .i64 l[k].ast.iss,.int .i64 l[k].bal,.int .i64 l[k].lim]):=rfl;obtain⟨x,hx⟩:∃x,x=l[k]:=⟨_,rfl⟩;have HXK:=sH hx;rw[←hx] at HV3 c3 HEN;clear hx;by_cases h1:lim<x.bal
  ·have HX:=sH (HV3.out.trans (if_pos h1));have hd:decide (lim<x.bal)=true:=decide_eq_true h1;clear h1;go_wp2_with fail;go_ret2;exact⟨.slice none 0 0,by rw[HX.out];rfl,by rw[HX.out];exact SlD.nil _ _ _,FA⟩
  have HV3:=sH (HV3.out.trans (if_neg h1));have hd:decide (lim<x.bal)=false:=decide_eq_false h1;clear h1;obtain⟨rb,rfl⟩:=dZ OW.out (by omega);have hrb:=bR OW.out rfl;have hk6:k≤1000:=by omega
  by_cases h2:lim=0∧x.bal=0
  ·have HX:=sH (HV3.out.trans (if_pos h2));obtain⟨rfl,h3⟩:=h2;rw[h3] at c3;clear hd HV3 HEN h3;have hw1:wrap64 ((k:Int)+1)=(k:Int)+1:=tT hk6;have hw2:IntKind.i64.wrap ((k:Int)+1)=(k:Int)+1:=kF hk6;have hl6:l.length≤1000000:=Nat.le_trans hl (by decide);go_wp2_with fail;clear hw1 hw2;refine(AJ l rb c4 k w4.heap.size W hk hl6 hsz OW.out).mono ?_;rintro e w8 ⟨rfl,ow8,F8⟩;have FA:=FA.own F8 (fun y hy=>by injection hy with hy;omega);have OW8:=sH ow8;clear ow8 F8;go_wp2_with fail;go_ret2;have hle:(l.eraseIdx k).length=l.length - 1:=List.length_eraseIdx_of_lt hk;exact⟨.slice (some ⟨rb,0,none⟩) (l.length - 1) c4,by rw[HX.out];rfl,by rw[HX.out];exact(SlD.own_dn OW8.out).keep (dH hbw),FA⟩
  have HX:=sH (HV3.out.trans (if_neg h2));have OWS:=sH (Cq OW.out hk 4 (by decide) (.int .i64 lim) {x with lim:=lim} (by rw[HXK.out];rfl));obtain⟨e0,ez,eb,_⟩:=lI OW.out hk;have e1:W.cell? ⟨rb,k*5+4,none⟩=some (.int .i64 l[k].lim):=(aY OW.out).2.1 _ _ ((bU lnR l k hk 4 (by decide)).trans rfl);have F8:Fr (some rb) W (W.setCell ⟨rb,k*5+4,none⟩ (.int .i64 lim)):=Fr.set1 W ⟨rb,k*5+4,none⟩ (.int .i64 lim);have FA:=FA.own F8 (fun y hy=>by injection hy with hy;omega);clear HV3 HEN e0 F8;by_cases h3:lim=0
  ·have hd3:(lim == 0)=true:=by simp[h3]
   have hd4:(x.bal == 0)=false:=by rw[beq_eq_false_iff_ne];exact fun e=>h2 ⟨h3,e⟩
   clear h2 h3;go_wp2_with fail;go_ret2;exact⟨.slice (some ⟨rb,0,none⟩) l.length c4,by rw[HX.out];rfl,by rw[HX.out];exact(SlD.own_dn OWS.out).keep (dH hbw),FA⟩
  have hd3:(lim == 0)=false:=by simp[h3]
  clear h2 h3;go_wp2_with fail;go_ret2;exact⟨.slice (some ⟨rb,0,none⟩) l.length c4,by rw[HX.out];rfl,by rw[HX.out];exact(SlD.own_dn OWS.out).keep (dH hbw),FA⟩
def OfB(w:World)(b:Nat)(x:Ofr):Prop:=w.heap[b]?=some (.cells #[.int .i64 x.id,.int .i64 x.sel,.string (bL x.sg.code),.int .i64 x.sg.iss,.string (bL x.by_.code),.int .i64 x.by_.iss,.int .i64 x.amt,.int .i64 x.num,.int .i64 x.den] 67 (0,0))
theorem OfB.fr{w w':World}{b:Nat}{a:Ofr}{r:Option Nat}(h:OfB w b a)(f:Fr r w w')(hr:r≠some b:=by simp):OfB w' b a:=aF h f hr
theorem OfB.cells{w:World}{b:Nat}{x:Ofr}(h:OfB w b x):w.cell? ⟨b,0,none⟩=some (.int .i64 x.id)∧w.cell? ⟨b,1,none⟩=some (.int .i64 x.sel)∧w.cell? ⟨b,2,none⟩=some (.string (bL x.sg.code))∧w.cell? ⟨b,3,none⟩=some (.int .i64 x.sg.iss)∧w.cell? ⟨b,4,none⟩=some (.string (bL x.by_.code))∧w.cell? ⟨b,5,none⟩=some (.int .i64 x.by_.iss)∧w.cell? ⟨b,6,none⟩=some (.int .i64 x.amt)∧w.cell? ⟨b,7,none⟩=some (.int .i64 x.num)∧w.cell? ⟨b,8,none⟩=some (.int .i64 x.den):=by
 refine⟨?_,?_,?_,?_,?_,?_,?_,?_,?_⟩<;>(rw[aA h];rfl)
theorem Gt{g:Lgr}{x:Ofr}{n1 n2:Int}{FB d1 d2 v1 v2 d6 d7 v8 d9 d10 d11:Bool}(hFB:FB=(aK g.accs x.sel).isSome)(hR:cI x.num x.den=(n1,n2))(hd1:decide (1≤x.id)=d1)(hd2:decide (x.id<g.nid)=d2)(hv1:aV x.sg=v1)(hv2:aV x.by_=v2)(hd6:decide (x.sg=x.by_)=d6)(hd7:decide (0<x.amt)=d7)(hv8:aX x.amt=v8)(hd9:(n1 !=0)=d9)(hd10:(n1 == x.num)=d10)(hd11:(n2 == x.den)=d11):jM g x=(d1&&d2&&FB&&v1&&v2&& !d6&&d7&&v8&&d9&&d10&&d11):=by
 have h2:decide (1≤x.id∧x.id<g.nid)=(d1&&d2):=by
  rw[←hd1,←hd2,Bool.eq_iff_iff];simp
 have h6:decide (x.sg≠x.by_)= !d6:=by rw[←hd6];simp
 have h7:decide (1≤x.amt)=d7:=by
  rw[←hd7,Bool.eq_iff_iff];simp only[decide_eq_true_eq];omega
 have h9:decide (cI x.num x.den=(x.num,x.den)∧x.num≠0)=(d9&&d10&&d11):=by
  rw[hR,←hd9,←hd10,←hd11,Bool.eq_iff_iff];simp only[decide_eq_true_eq,Bool.and_eq_true,bne_iff_ne,beq_iff_eq,Prod.mk.injEq,ne_eq];constructor
  ·rintro⟨⟨h1,h2⟩,h3⟩;exact⟨⟨fun e=>h3 (by omega),h1⟩,h2⟩
  rintro⟨⟨h1,h2⟩,h3⟩;exact⟨⟨h2,h3⟩,fun e=>h1 (by omega)⟩
 unfold jM;rw[←hFB,h2,hv1,hv2,h6,h7,hv8,h9];cases d1<;>cases d2<;>cases FB<;>cases v1<;>cases v2<;>cases d6<;>cases d7<;>cases v8<;>rfl
theorem Hz{p:Prop}(h:p:=by
 clear h6 e3;generalize hd7:decide (0<x.amt)=d7 at*
 cases d7 with
 |false=>
  have HX:Hid (V=false):=HC.out;clear HC;go_wp2;go_ret;exact⟨aJ HX.out.symm,FA⟩
 |true=>
  go_wp2_with fail;refine(cJ x.amt w6).mono ?_;rintro e w7 ⟨rfl,rfl⟩;generalize aX x.amt=v8 at*
  cases v8 with
  |false=>
   have HX:Hid (V=false):=HC.out;clear HC;go_wp2;go_ret;exact⟨aJ HX.out.symm,FA⟩
  |true=>
   generalize hd9:(r1 !=0)=d9 at*
   cases d9 with
   |false=>
    have HX:Hid (V=false):=HC.out;clear HC;go_wp2;go_ret;exact⟨aJ HX.out.symm,FA⟩
   |true=>
    generalize hd10:(r1 == x.num)=d10 at*
    cases d10 with
    |false=>
     have HX:Hid (V=false):=HC.out;clear HC;go_wp2;go_ret;exact⟨aJ HX.out.symm,FA⟩
    |true=>
     generalize hd11:(r2 == x.den)=d11 at*
     have HX:Hid (V=d11):=HC.out;clear HC;go_wp2;go_ret;exact⟨aJ HX.out.symm,FA⟩):p:=h
theorem Cu(g:Lgr)(x:Ofr)(va vl vo:Value)(w:World)(h:LgS w none g va vl vo):Calls Tryz.prog 59 #[.agg #[.int .i64 g.num,va,vl,vo,.int .i64 g.nid,.int .i64 g.fees,.int .u64 (g.link:Int)],.agg #[.int .i64 x.id,.int .i64 x.sel,.string (bL x.sg.code),.int .i64 x.sg.iss,.string (bL x.by_.code),.int .i64 x.by_.iss,.int .i64 x.amt,.int .i64 x.num,.int .i64 x.den]] w fun e w'=>e= .returned (.bool (jM g x))∧Fr none w w':=by
 obtain⟨V,hV⟩:∃V,V=jM g x:=⟨_,rfl⟩;rw[←hV];have HV:=sH hV;clear hV;obtain⟨A1,c1,rfl, -, -, -⟩:=aN h.1;obtain⟨A2,c2,rfl, -, -, -⟩:=aU h.2.1;obtain⟨A3,c3,rfl, -, -, -⟩:=bA h.2.2.1;have HG:=sH h;clear h;go_enter Tryz.func59,Tryz.ntmps59;go_upto_region 1 with(fail)
 generalize hW:(w.alloc _).alloc _=w1;obtain⟨FA,hlg,hof⟩:Fr none w w1∧LgB w1 w.heap.size g (.slice A1 g.accs.length c1) (.slice A2 g.lines.length c2) (.slice A3 g.offers.length c3)∧OfB w1 (w.heap.size+1) x:=by rw[←hW];exact cW w _ _
 clear hW;obtain⟨k0,k1,k2,k3,k4,k5,k6⟩:=(hlg).cells;obtain⟨n0,n1,n2,n3,n4,n5,n6,n7,n8⟩:=(hof).cells;go_wp2_with fail;refine(gW g.accs _ x.sel w1 (HG.out.1.fr FA)).mono ?_;rintro e w2 ⟨rfl,F2⟩;have hfs:=dY g.accs x.sel;generalize dR g.accs x.sel=R at*
 obtain⟨⟨f1,f2,f3⟩,FB⟩:=R;have HFB:Hid (FB=(aK g.accs x.sel).isSome):=hfs;clear hfs;have FA:=FA.pure F2;have hlg:=hlg.fr F2;have hof:=hof.fr F2;clear k0 k1 k2 k3 k4 k5 k6 n0 n1 n2 n3 n4 n5 n6 n7 n8;obtain⟨k0,k1,k2,k3,k4,k5,k6⟩:=(hlg).cells;obtain⟨n0,n1,n2,n3,n4,n5,n6,n7,n8⟩:=(hof).cells;clear F2;go_upto_region 2 with(fail)
 generalize hW:w2.alloc _=w3;have F3:Fr none w2 w3:=hW▸(Fr.refl none w2).alloc _;clear hW;have FA:=FA.pure F3;have hlg:=hlg.fr F3;have hof:=hof.fr F3;clear k0 k1 k2 k3 k4 k5 k6 n0 n1 n2 n3 n4 n5 n6 n7 n8;obtain⟨k0,k1,k2,k3,k4,k5,k6⟩:=(hlg).cells;obtain⟨n0,n1,n2,n3,n4,n5,n6,n7,n8⟩:=(hof).cells;clear F3;go_wp2_with fail;refine(rV x.num x.den w3).mono ?_;rintro e w4 ⟨rfl,F4⟩;obtain⟨RD,hRD⟩:∃RD,RD=cI x.num x.den:=⟨_,rfl⟩;rw[←hRD];obtain⟨r1,r2⟩:=RD;have HR:=sH hRD.symm;clear hRD;have FA:=FA.pure F4;have hlg:=hlg.fr F4;have hof:=hof.fr F4;clear k0 k1 k2 k3 k4 k5 k6 n0 n1 n2 n3 n4 n5 n6 n7 n8;obtain⟨k0,k1,k2,k3,k4,k5,k6⟩:=(hlg).cells;obtain⟨n0,n1,n2,n3,n4,n5,n6,n7,n8⟩:=(hof).cells;clear F4;have HC:=sH (Gt HFB.out HR.out rfl rfl rfl rfl rfl rfl rfl rfl rfl rfl);rw[←HV.out] at HC;clear HV HFB HR;generalize hd1:decide (1≤x.id)=d1 at*
 cases d1 with
 |false=>
  have HX:Hid (V=false):=HC.out;clear HC;go_wp2;go_ret;exact⟨aJ HX.out.symm,FA⟩
 |true=>
  generalize hd2:decide (x.id<g.nid)=d2 at*
  cases d2 with
  |false=>
   have HX:Hid (V=false):=HC.out;clear HC;go_wp2;go_ret;exact⟨aJ HX.out.symm,FA⟩
  |true=>
   cases FB with
   |false=>
    have HX:Hid (V=false):=HC.out;clear HC;go_wp2;go_ret;exact⟨aJ HX.out.symm,FA⟩
   |true=>
    go_wp2_with fail;refine(bT x.sg w4).mono ?_;rintro e w5 ⟨rfl,F5⟩;have FA:=FA.pure F5;have hlg:=hlg.fr F5;have hof:=hof.fr F5;clear k0 k1 k2 k3 k4 k5 k6 n0 n1 n2 n3 n4 n5 n6 n7 n8;obtain⟨k0,k1,k2,k3,k4,k5,k6⟩:=(hlg).cells;obtain⟨n0,n1,n2,n3,n4,n5,n6,n7,n8⟩:=(hof).cells;clear F5;generalize aV x.sg=v1 at*
    cases v1 with
    |false=>
     have HX:Hid (V=false):=HC.out;clear HC;go_wp2;go_ret;exact⟨aJ HX.out.symm,FA⟩
    |true=>
     go_wp2_with fail;refine(bT x.by_ w5).mono ?_;rintro e w6 ⟨rfl,F6⟩;have FA:=FA.pure F6;have hlg:=hlg.fr F6;have hof:=hof.fr F6;clear k0 k1 k2 k3 k4 k5 k6 n0 n1 n2 n3 n4 n5 n6 n7 n8;obtain⟨k0,k1,k2,k3,k4,k5,k6⟩:=(hlg).cells;obtain⟨n0,n1,n2,n3,n4,n5,n6,n7,n8⟩:=(hof).cells;clear F6;generalize aV x.by_=v2 at*
     cases v2 with
     |false=>
      have HX:Hid (V=false):=HC.out;clear HC;go_wp2;go_ret;exact⟨aJ HX.out.symm,FA⟩
     |true=>
      by_cases h6:x.sg=x.by_
      ·have HX:Hid (V=false):=by unfold Hid;rw[HC.out,decide_eq_true h6];rfl
       have e1:(bL x.sg.code).toList=(bL x.by_.code).toList:=by rw[h6]
       have e2:x.sg.iss=x.by_.iss:=by rw[h6]
       clear HC h6;go_wp2;go_ret;exact⟨aJ HX.out.symm,FA⟩
      have HC:Hid (V=(decide (0<x.amt)&&aX x.amt&&(r1 !=0)&&(r1 == x.num)&&(r2 == x.den))):=by unfold Hid;rw[HC.out,decide_eq_false h6];rfl
      by_cases e3:x.sg.code=x.by_.code
      ·have e1:(bL x.sg.code).toList=(bL x.by_.code).toList:=by rw[e3]
       have e2:¬x.sg.iss=x.by_.iss:=fun e=>h6 (by cases hh:x.sg;cases hk:x.by_;rw[hh,hk] at e3 e;simp only at e3 e;rw[e3,e]);exact Hz
      have e1:¬(bL x.sg.code).toList=(bL x.by_.code).toList:=fun e=>e3 (by rw[bQ,bQ] at e;exact e);exact Hz
theorem nM{α:Type}(f:Option α→α→Bool):∀(l:List α) (b:Option α) (x:α),bV f b (l++[x])=(bV f b l&&f (l.getLast?.or b) x)
 |[],b,x=>by simp[bV]
 |y::r,b,x=>by
  rw[List.cons_append];unfold bV;rw[nM f r (some y) x,Bool.and_assoc];congr 2;cases r with
  |nil=>rfl
  |cons z r=>simp[List.getLast?_cons_cons,List.getLast?_cons]
theorem xU{α:Type}{f:Option α→α→Bool}{l:List α}{j:Nat}(hj:j<l.length):bV f none (l.take (j+1))=(bV f none (l.take j)&&f (bK l j) l[j]):=by
 rw[List.take_succ_eq_append_getElem hj,nM];congr 2;unfold bK;cases j with
 |zero=>simp
 |succ j=>
  rw[if_neg (by omega),Nat.add_sub_cancel];rw[List.getLast?_take,if_neg (by omega),Nat.add_sub_cancel];simp;rw[List.getElem?_eq_getElem (by omega)];rfl
theorem Gu{g:Lgr}{l:List Ofr}{j m:Nat}{x y:Ofr}(hm:0<j→j=m+1)(hy:l[m]?=some y):fJ g (bK l j) x=(jM g x&&(((j:Int) == 0)||decide (y.id<x.id))):=by
 rw[pO];unfold bK;by_cases h0:j=0
 ·subst h0;simp
 have:=hm (by omega);subst this;have e:(((m+1:Nat):Int) == 0)=false:=by rw[beq_eq_false_iff_ne];omega
 rw[e];simp[hy]
theorem eJ(g:Lgr)(va vl vo:Value)(w:World)(h:LgS w none g va vl vo):Calls Tryz.prog 30 #[.agg #[.int .i64 g.num,va,vl,vo,.int .i64 g.nid,.int .i64 g.fees,.int .u64 (g.link:Int)]] w fun e w'=>e= .returned (.int .i64 (aH g))∧Fr none w w':=by
 obtain⟨V,hV⟩:∃V,V=aH g:=⟨_,rfl⟩;rw[←hV];have HV:=sH hV;clear hV;obtain⟨A1,c1,rfl, -, -, -⟩:=aN h.1;obtain⟨A2,c2,rfl, -, -, -⟩:=aU h.2.1;obtain⟨A3,c3,rfl,q1,q2,hcc⟩:=bA h.2.2.1;have HC:=sH hcc;have HG:=sH h;clear h hcc;go_enter Tryz.func30,Tryz.ntmps30;go_upto_region 1 with(fail)
 generalize hW:w.alloc _=w1;have FA:Fr none w w1:=hW▸(Fr.refl none w).alloc _;have hlg:LgB w1 w.heap.size g (.slice A1 g.accs.length c1) (.slice A2 g.lines.length c2) (.slice A3 g.offers.length c3):=by rw[←hW];exact aD _ _
 clear hW;obtain⟨k0,k1,k2,k3,k4,k5,k6⟩:=hlg.cells;have l0:=aC hlg;go_wp2_with fail;refine(rT g.lines g.accs _ _ w1 (HG.out.2.1.fr FA) (HG.out.1.fr FA)).mono ?_;rintro e w2 ⟨rfl,F2⟩;have FA:=FA.pure F2;have hlg:=hlg.fr F2;clear k0 k1 k2 k3 k4 k5 k6 l0 F2;obtain⟨k0,k1,k2,k3,k4,k5,k6⟩:=hlg.cells;have l0:=aC hlg;obtain⟨CA,hCA⟩:∃CA,CA=bW g.lines g.accs:=⟨_,rfl⟩;rw[←hCA];have HCA:=sH hCA;clear hCA;by_cases hA:CA=0
 ·subst hA;by_cases hl:40<g.offers.length
  ·have hd:decide ((40:Int)<(g.offers.length:Int))=true:=decide_eq_true (by omega);have HX:Hid (V=3):=by unfold Hid;rw[HV.out];unfold aH;rw[if_neg (fun e=>e HCA.out.symm),if_pos hl]
   clear hl;go_wp2;go_ret;exact⟨aM HX.out.symm,FA⟩
  have hd:decide ((40:Int)<(g.offers.length:Int))=false:=decide_eq_false (by omega);have HVl:Hid (V=if dI g=true∧bV (fJ g) none g.offers=true then 0 else 74):=by unfold Hid;rw[HV.out];unfold aH;rw[if_neg (fun e=>e HCA.out.symm),if_neg hl]
  clear hl HV;go_upto_region 6 with(fail)
  go_cut [4,19,20,21,22,23,24,25,26,27,28,29,30,31,32,33,34,35,36,37,38,39,40,41] (fun s4 _ _ _ _ _ _ _ _ _ _ _ _ _ _ _ _ _ _ _ _ _ _ _ wq=>s4= .bool (dI g)∧Fr none w2 wq)
  case first=>
   have hL:dI g=(decide (1≤g.nid)&&decide (g.nid≤1000000)&&aX g.fees&&decide (0≤g.num)&&decide (g.num≤1000000)):=by
    unfold dI;generalize aX g.fees=v;rw[Bool.eq_iff_iff];simp[and_assoc]
   have HL:=sH hL;clear hL HVl;generalize hd1:decide (1≤g.nid)=d1 at*
   cases d1 with
   |false=>
    have HX:Hid (dI g=false):=HL.out;clear HL;go_wp2_with fail;go_meet
    exact⟨by rw[HX.out]<;>rfl,Fr.refl _ _⟩
   |true=>
    generalize hd2:decide (g.nid≤1000000)=d2 at*
    cases d2 with
    |false=>
     have HX:Hid (dI g=false):=HL.out;clear HL;go_wp2_with fail;go_meet
     exact⟨by rw[HX.out]<;>rfl,Fr.refl _ _⟩
    |true=>
     go_wp2_with fail;refine(cJ g.fees w2).mono ?_;rintro e w3 ⟨rfl,rfl⟩;generalize aX g.fees=v at*
     cases v with
     |false=>
      have HX:Hid (dI g=false):=HL.out;clear HL;go_wp2_with fail;go_meet
      exact⟨by rw[HX.out]<;>rfl,Fr.refl _ _⟩
     |true=>
      generalize hd3:decide (0≤g.num)=d3 at*
      cases d3 with
      |false=>
       have HX:Hid (dI g=false):=HL.out;clear HL;go_wp2_with fail;go_meet
       exact⟨by rw[HX.out]<;>rfl,Fr.refl _ _⟩
      |true=>
       generalize hd4:decide (g.num≤1000000)=d4 at*
       have HX:Hid (dI g=d4):=HL.out;clear HL;go_wp2_with fail;go_meet
       exact⟨by rw[HX.out]<;>rfl,Fr.refl _ _⟩
  case rest=>
   obtain⟨rfl,Fc⟩:=hcut;clear k0 k1 k2 k3 k4 k5 k6 l0;obtain⟨k0,k1,k2,k3,k4,k5,k6⟩:=(hlg.fr Fc).cells;have l0:=aC (hlg.fr Fc);have HFc:=sH Fc;clear Fc;go_wp2_with fail;clear k0 k1 k2 k3 k4 k5 k6 l0;go_loopw [4,45] (fun s4 s45 wr=>∃j:Nat,j≤g.offers.length∧s45= .int .i64 (j:Int)∧s4= .bool (dI g&&bV (fJ g) none (g.offers.take j))∧Fr none w2 wr) (fun _ s45 _=>g.offers.length - (intOf s45).toNat)
   case atStart=>exact⟨0,by omega,rfl,by simp[bV],HFc.out⟩
   case round=>
    obtain⟨j,hj,rfl,rfl,F⟩:=hrel;obtain⟨wz,hwz⟩:∃wz:World,wz=wr:=⟨_,rfl⟩;subst hwz;have F0z:=FA.pure F;have hlg:=hlg.fr F;by_cases hlt:j<g.offers.length
    ·obtain⟨b,off,rfl,hb,_,hcc⟩:=HC.out (by omega);obtain⟨e0,e1,e2,e3,e4,e5,e6,e7,e8⟩:=hcc j hlt;have e0:=F0z.keep e0;have e1:=F0z.keep e1;have e2:=F0z.keep e2;have e3:=F0z.keep e3;have e4:=F0z.keep e4;have e5:=F0z.keep e5;have e6:=F0z.keep e6;have e7:=F0z.keep e7;have e8:=F0z.keep e8;obtain⟨m,hm,hml⟩:∃m,(0<j→j=m+1)∧m<g.offers.length:=⟨j - 1,by omega,by omega⟩;have d0:=F0z.keep (hcc m hml).1 (by simp);have hwr:0<j→IntKind.i64.wrap ((j:Int) - 1)=(m:Int):=fun h=>by have:=hm h;rw[IntKind.wrap_i64];omega
     have hml':(m:Int)<(g.offers.length:Int):=by omega
     have HTK:Hid (bV (fJ g) none (g.offers.take (j+1))=(bV (fJ g) none (g.offers.take j)&&(jM g g.offers[j]&&(((j:Int) == 0)||decide (g.offers[m].id<g.offers[j].id))))):=by unfold Hid;rw[xU hlt,Gu hm (List.getElem?_eq_getElem hml)]
     clear hcc hm;generalize g.offers[j]=x at*
     generalize g.offers[m]=y at*
     have hlo:=aC hlg;go_upto_region 10 with(fail)
     generalize hW:wz.alloc _=wa;have Fa:Fr none wz wa:=hW▸(Fr.refl none wz).alloc _;have b4:OfB wa wz.heap.size x:=by rw[←hW];exact aD _ _
     have hlg:=hlg.fr Fa;have d0:=Fa.keep d0;clear hW e0 e1 e2 e3 e4 e5 e6 e7 e8;have FAa:=F0z.pure Fa;obtain⟨S,hS⟩:∃S,S=(dI g&&bV (fJ g) none (g.offers.take j)):=⟨_,rfl⟩;rw[←hS];have HSS:=sH hS;clear hS;refine aL (fun W=>Fr none wa W) 22 75 [some 71,some 70,some 69,some 68,some 67,some 66,some 65,some 64,some 63,some 62,some 61,some 60,some 59,some 58,some 57,some 56,some 55,some 54,some 53,some 52,some 51,some 50] (by kernel_rfl) (by kernel_rfl) (by kernel_rfl) (Nat.le_refl _) ((Fr.refl _ _).drew) ?_;refine FxL.p [] [4] ?_;refine FxL.p [(0,0,50)] [] ?_;have HF1:=sH (fun(w:World) (hS:(fun W=>Fr none wa W) w)=>And.intro ((hlg.fr hS).cells) (And.intro ((b4.fr hS).cells) (hS.keep d0)));refine FxL.xq HF1.out 0 [] [1] ?_;refine FxL.xq HF1.out 1 [] [6] ?_;refine FxL.gwc (u:=?_) (f:=?_) (args:=?_) rfl 2 rfl (by simp only[aG]<;>rfl) (fun hg ev w hS E=>?_) (fun hg w hS=>?_) ?_;rotate_left 3
     ·obtain⟨k0,k1,k2,k3,k4,k5,k6⟩:=(hlg.fr hS).cells;obtain⟨n0,n1,n2,n3,n4,n5,n6,n7,n8⟩:=(b4.fr hS).cells;have dd:=hS.keep d0;obtain⟨t52,t53,ec,ef,eg⟩:=E.get [(1,2,52),(0,3,53)] [] (by kernel_rfl);clear E;simp only[aG] at t52 t53
      (try simp only[hg,bG] at t52 t53);go_simp;first|(refine And.intro ?_ ?_<;>with_reducible rfl)|with_reducible rfl
     ·obtain⟨k0,k1,k2,k3,k4,k5,k6⟩:=(hlg.fr hS).cells;obtain⟨n0,n1,n2,n3,n4,n5,n6,n7,n8⟩:=(b4.fr hS).cells;have dd:=hS.keep d0;refine(Cu g x _ _ _ w (HG.out.fr (FAa.pure hS))).mono ?_;rintro e w2 ⟨rfl,F2⟩;refine⟨?_,hS.pure F2⟩;with_reducible rfl
     refine FxL.pand rfl rfl 3 1 0 4 (by kernel_rfl) rfl rfl ?_;refine FxL.p [(0,5,55)] [] ?_;refine FxL.x 0 [] [5] ?_;refine FxL.x 1 [(0,7,57)] [] ?_;refine FxL.x 2 [(0,8,58)] [] ?_;refine FxL.x 0 [] [1] ?_;refine FxL.xq HF1.out 1 [(0,10,60)] [] ?_;refine FxL.x 2 [] [5] ?_;refine FxL.gw (u:=?_) rfl 3 rfl (by simp only[aG]<;>rfl) (fun hg ev w hS E=>?_) ?_;rotate_left
     ·obtain⟨t62,ec,ef,eg⟩:=E.get [(0,12,62)] [] (by kernel_rfl);clear E;simp only[aG] at t62
      (try simp only[hg,bG] at t62)
      have hw:=hwr (by have hd:=(iC hg).2;simp at hd;omega);go_simp;try with_reducible rfl
     refine FxL.xq HF1.out 4 [(2,11,61),(0,13,63)] [] ?_;refine FxL.x 5 [(0,14,64)] [] ?_;refine FxL.xq HF1.out 6 [(0,15,65)] [] ?_;refine FxL.x 7 [] [6] ?_;refine FxL.xq HF1.out 8 [(0,17,67)] [] ?_;refine FxL.x 9 [(2,16,66),(0,18,68)] [] ?_;refine FxL.gpor rfl rfl 13 rfl (by simp only[aG]<;>rfl) 10 9 0 19 (by kernel_rfl) rfl rfl ?_;refine FxL.pand rfl rfl 14 6 0 20 (by kernel_rfl) rfl rfl ?_;refine FxL.done (fun W hW=>?_);simp only[bF];try simp only[sI]
     try simp only[sK]
     have FF:=F.pure (Fa.pure hW);have HX:Hid ((S&&jM g x&&(((j:Int) == 0)||decide (y.id<x.id)))=(dI g&&bV (fJ g) none (g.offers.take (j+1)))):=by unfold Hid;rw[HTK.out,HSS.out];simp only[Bool.and_assoc]
     clear HTK HSS;go_wp2_with fail;go_roundw
     case rel=>exact⟨j+1,hlt,by go_num,by rw[HX.out],FF⟩
     case measure=>simp[intOf];omega
    have HX:Hid (V=if(dI g&&bV (fJ g) none (g.offers.take j))=true then 0 else 74):=by
     unfold Hid;rw[HVl.out,List.take_of_length_le (by omega)];simp only[Bool.and_eq_true]
    generalize(dI g&&bV (fJ g) none (g.offers.take j))=S at*
    cases S with
    |true=>
     go_wp2;go_ret;exact⟨aM (by rw[HX.out];rfl),F0z⟩
    |false=>
     go_wp2;go_ret;exact⟨aM (by rw[HX.out];rfl),F0z⟩
 have HX:Hid (V=CA):=by unfold Hid;rw[HV.out];unfold aH;rw[if_pos (fun e=>hA (by rw[HCA.out,e])),HCA.out]
 have hq:(CA !=0)=true:=by simp[hA]
 clear hA;go_wp2;go_ret;exact⟨aM HX.out.symm,FA⟩
theorem wC(x y z:Int):(if z<(if y<x then y else x) then z else(if y<x then y else x))=min x (min y z):=by
 simp only[Int.min_def]
 repeat' split
 all_goals omega
theorem AL(y:Ofr)(id:Int)(bx:Nat)(w:World)(h:w.cell? ⟨bx,0,none⟩=some (.int .i64 id)):Calls Tryz.prog 156 #[.agg #[.int .i64 y.id,.int .i64 y.sel,.string (bL y.sg.code),.int .i64 y.sg.iss,.string (bL y.by_.code),.int .i64 y.by_.iss,.int .i64 y.amt,.int .i64 y.num,.int .i64 y.den],.pointer (some ⟨bx,0,none⟩)] w fun e w'=>e= .returned (.bool (isO id y))∧Fr none w w':=by
 have HX:Hid ((y.id == id)=isO id y):=fE;go_enter Tryz.func156,Tryz.ntmps156;go_upto_region 1 with(fail)
 generalize hW:w.alloc _=w1;have F1:Fr none w w1:=hW▸(Fr.refl none w).alloc _;have b1:OfB w1 w.heap.size y:=by rw[←hW];exact aD _ _
 obtain⟨n0,n1,n2,n3,n4,n5,n6,n7,n8⟩:=b1.cells;have c1:=F1.keep h;clear hW h;go_wp2;go_ret;exact⟨aJ (by rw[←HX.out]),F1⟩
theorem tV:∀args w,Sem.run Tryz.prog (callFunc 156 args) w= .ok (.enter 156 args) w:=fun _ _=>by kernel_rfl
theorem sD(g:Lgr)(va vl vo:Value)(id:Int)(w:World)(h:LgS w none g va vl vo):Calls Tryz.prog 117 #[.agg #[.int .i64 g.num,va,vl,vo,.int .i64 g.nid,.int .i64 g.fees,.int .u64 (g.link:Int)],.int .i64 id] w fun e w'=>e= .returned (.int .i64 (dG (isO id) g.offers))∧Fr none w w':=by
 obtain⟨A1,c1,rfl, -, -, -⟩:=aN h.1;obtain⟨A2,c2,rfl, -, -, -⟩:=aU h.2.1;obtain⟨A3,c3,rfl, -, -, -⟩:=bA h.2.2.1;have HG:=sH h;clear h;go_enter Tryz.func117,Tryz.ntmps117;go_upto_region 1 with(fail)
 generalize hW:(w.alloc _).alloc _=w1;obtain⟨FA,hlg,hid⟩:Fr none w w1∧LgB w1 w.heap.size g (.slice A1 g.accs.length c1) (.slice A2 g.lines.length c2) (.slice A3 g.offers.length c3)∧w1.heap[w.heap.size+1]?=some (.cells #[.int .i64 id] 3 (0,0)):=by rw[←hW];exact cW w _ _
 clear hW;obtain⟨k0,k1,k2,k3,k4,k5,k6⟩:=hlg.cells;have l0:=aC hlg;have HC:Hid (w1.cell? ⟨w.heap.size+1,0,none⟩=some (.int .i64 id)):=by unfold Hid;rw[aA hid];rfl
 clear hid;go_wp2_with fail;refine(yU (isO id) 156 #[.pointer (some ⟨w.heap.size+1,0,none⟩)] tV g.offers _ w1 (HG.out.2.2.1.fr FA) (fun y _ W FW=>AL y id (w.heap.size+1) W (FW.keep HC.out))).mono ?_;rintro e w2 ⟨rfl,F2⟩;go_wp2;go_ret;exact⟨rfl,FA.pure F2⟩
theorem wD(x:Ofr)(most:Int)(w:World)(h1:0≤most)(h2:most≤1000000000000):Calls Tryz.prog 214 #[.agg #[.int .i64 x.id,.int .i64 x.sel,.string (bL x.sg.code),.int .i64 x.sg.iss,.string (bL x.by_.code),.int .i64 x.by_.iss,.int .i64 x.amt,.int .i64 x.num,.int .i64 x.den],.int .i64 most] w fun e w'=>e= .returned (.int .i64 (wth x most))∧Fr none w w':=by
 obtain⟨V,hV⟩:∃V,V=wth x most:=⟨_,rfl⟩;rw[←hV];unfold wth at hV;have hp:=@gU x.num x.den;go_enter Tryz.func214,Tryz.ntmps214;go_upto_region 1 with(fail)
 generalize hW:w.alloc _=w1;have F1:Fr none w w1:=hW▸(Fr.refl none w).alloc _;have b1:OfB w1 w.heap.size x:=by rw[←hW];exact aD _ _
 obtain⟨n0,n1,n2,n3,n4,n5,n6,n7,n8⟩:=b1.cells;have l0:=aC b1;clear hW;have HV:=sH hV;have HP:=sH hp;clear hV hp;go_wp2_with fail;refine(gN x.num x.den w1).mono ?_;rintro e w2 ⟨rfl,rfl⟩;generalize bX x.num x.den=p at*
 cases p with
 |false=>
  have HX:Hid (V=0):=HV.out.trans (if_neg (by simp));clear HV HP;go_wp2;go_ret;exact⟨aM HX.out.symm,F1⟩
 |true=>
  have HX:Hid (V=min 1000000000000 (most*x.den/x.num)):=HV.out.trans (if_pos rfl);obtain⟨p1,p2,p3,p4⟩:=HP.out.1 rfl;have m1:=yX h1 h2 p3 p4;have w1':wrap64 (most*x.den)=most*x.den:=fV (by omega) (by omega);have q3:Int.tdiv (most*x.den) x.num=most*x.den/x.num:=Int.tdiv_eq_ediv_of_nonneg (by omega);have q4:wrap64 (most*x.den/x.num)=most*x.den/x.num:=by
   have e1:0≤most*x.den/x.num:=Int.ediv_nonneg (by omega) (by omega);have e2:most*x.den/x.num≤most*x.den:=Int.ediv_le_self _ (by omega);exact fV (by omega) (by omega)
  have q6:¬x.num=0:=by omega
  clear HV HP p1 p2 p3 p4 m1 h1 h2;go_wp2;go_ret;exact⟨aM HX.out.symm,F1⟩
theorem AM(x:Ofr)(n:Int)(w:World)(h1:1≤x.den)(h2:x.den≤1000000):Calls Tryz.prog 215 #[.agg #[.int .i64 x.id,.int .i64 x.sel,.string (bL x.sg.code),.int .i64 x.sg.iss,.string (bL x.by_.code),.int .i64 x.by_.iss,.int .i64 x.amt,.int .i64 x.num,.int .i64 x.den],.int .i64 n] w fun e w'=>e= .returned (.tuple #[.int .i64 (upN n x.num x.den).1,.int .i64 (upN n x.num x.den).2])∧Fr none w w':=by
 obtain⟨V,hV⟩:∃V,V=upN n x.num x.den:=⟨_,rfl⟩;rw[←hV];have HV:=sH hV;clear hV;go_enter Tryz.func215,Tryz.ntmps215;go_upto_region 1 with(fail)
 generalize hW:w.alloc _=w1;have F1:Fr none w w1:=hW▸(Fr.refl none w).alloc _;have b1:OfB w1 w.heap.size x:=by rw[←hW];exact aD _ _
 obtain⟨n0,n1,n2,n3,n4,n5,n6,n7,n8⟩:=b1.cells;have l0:=aC b1;clear hW;go_wp2_with fail;refine(Ev n x.num x.den w1 h1 h2).mono ?_;rintro e w2 ⟨rfl,F2⟩;rw[←HV.out];obtain⟨u,z⟩:=V;go_wp2_with fail;go_ret2;exact⟨rfl,F1.pure F2⟩
theorem nA(g:Lgr)(x:Ofr)(va vl vo:Value)(w:World)(h:LgS w none g va vl vo)(hk:bW g.lines g.accs=0):Calls Tryz.prog 213 #[.agg #[.int .i64 g.num,va,vl,vo,.int .i64 g.nid,.int .i64 g.fees,.int .u64 (g.link:Int)],.agg #[.int .i64 x.id,.int .i64 x.sel,.string (bL x.sg.code),.int .i64 x.sg.iss,.string (bL x.by_.code),.int .i64 x.by_.iss,.int .i64 x.amt,.int .i64 x.num,.int .i64 x.den]] w fun e w'=>e= .returned (.int .i64 (jI g x))∧Fr none w w':=by
 have hr:0≤iD g x.sel x.by_∧iD g x.sel x.by_≤1000000000000:=by
  have:=rK hk (acc:=x.sel) (a:=x.by_);unfold iD;rw[if_neg (by omega)];exact⟨this.2.1,this.2.2.2⟩
 have HR:=sH hr;have HX:Hid (jI g x=max 0 (min x.amt (min (fG g x.sel x.sg) (wth x (iD g x.sel x.by_))))):=by unfold Hid jI;rw[Int.min_assoc]
 clear hr hk;obtain⟨A1,c1,rfl, -, -, -⟩:=aN h.1;obtain⟨A2,c2,rfl, -, -, -⟩:=aU h.2.1;obtain⟨A3,c3,rfl, -, -, -⟩:=bA h.2.2.1;have HG:=sH h;clear h;go_enter Tryz.func213,Tryz.ntmps213;go_upto_region 1 with(fail)
 generalize hW:(w.alloc _).alloc _=w1;obtain⟨FA,hlg,hof⟩:Fr none w w1∧LgB w1 w.heap.size g (.slice A1 g.accs.length c1) (.slice A2 g.lines.length c2) (.slice A3 g.offers.length c3)∧OfB w1 (w.heap.size+1) x:=by rw[←hW];exact cW w _ _
 clear hW;refine aL (fun W=>Fr none w1 W) 19 23 [some 4,some 22,some 21,some 20,some 19,some 18,some 17,some 16,some 15,some 14,some 13,some 12,some 11,some 10,some 9,some 8,some 7,some 6,some 5] (by kernel_rfl) (by kernel_rfl) (by kernel_rfl) (Nat.le_refl _) ((Fr.refl _ _).drew) ?_;refine FxL.p [] [3] ?_;have HF1:=sH (fun(w:World) (hS:(fun W=>Fr none w1 W) w)=>And.intro ((hlg.fr hS).cells) ((hof.fr hS).cells));refine FxL.q HF1.out [(0,0,5)] [] ?_;refine FxL.q HF1.out [] [2] ?_;refine FxL.p [] [3] ?_;refine FxL.q HF1.out [(0,3,8)] [] ?_;refine FxL.p [] [3] ?_;refine FxL.q HF1.out [(0,5,10)] [] ?_;refine FxL.c [(4,2,7),(2,4,9),(0,6,11)] [] (fun w hS=>rY g _ _ _ x.sel x.sg w (HG.out.fr (FA.pure hS))) ?_;refine FxL.q HF1.out [] [3] ?_;refine FxL.q HF1.out [] [2] ?_;refine FxL.p [] [3] ?_;refine FxL.q HF1.out [(0,10,15)] [] ?_;refine FxL.p [] [3] ?_;refine FxL.q HF1.out [(0,12,17)] [] ?_;refine FxL.c [(4,9,14),(2,11,16),(0,13,18)] [] (fun w hS=>AE g _ _ _ x.sel x.by_ w (HG.out.fr (FA.pure hS))) ?_;refine FxL.c [(6,8,13),(0,14,19)] [] (fun w hS=>wD x (iD g x.sel x.by_) w HR.out.1 HR.out.2) ?_;refine FxL.pure (v:=.int .i64 (min x.amt (min (fG g x.sel x.sg) (wth x (iD g x.sel x.by_))))) rfl (fun ev w hS E=>?_) ?_
 ·obtain⟨t6,t12,t20,ec,ef,eg⟩:=E.get [(14,1,6),(8,7,12),(0,15,20)] [] (by kernel_rfl);clear E;simp only[aG] at t6 t12 t20;go_simp;rw[wC]
 refine FxL.p [(0,16,21)] [] ?_;refine FxL.p [(0,17,22)] [] ?_;refine FxL.done (fun W hW=>?_);simp only[bF];try simp only[sI]
 try simp only[sK]
 go_wp2;go_ret;exact⟨by rw[HX.out]<;>rfl,FA.pure hW⟩
theorem pV(g:Lgr)(va vl vo:Value)(acc:Int)(a:Ast)(w:World)(h:LgS w none g va vl vo):Calls Tryz.prog 114 #[.agg #[.int .i64 g.num,va,vl,vo,.int .i64 g.nid,.int .i64 g.fees,.int .u64 (g.link:Int)],.int .i64 acc,.agg #[.string (bL a.code),.int .i64 a.iss]] w fun e w'=>e= .returned (.bool (dV g acc a))∧Fr none w w':=by
 obtain⟨V,hV⟩:∃V,V=dV g acc a:=⟨_,rfl⟩;rw[←hV];unfold dV at hV;have HV:=sH hV;clear hV;obtain⟨A1,c1,rfl, -, -, -⟩:=aN h.1;obtain⟨A2,c2,rfl, -, -, -⟩:=aU h.2.1;obtain⟨A3,c3,rfl, -, -, -⟩:=bA h.2.2.1;have HG:=sH h;clear h;go_enter Tryz.func114,Tryz.ntmps114;go_upto_region 1 with(fail)
 generalize hW:(w.alloc _).alloc _=w1;obtain⟨F1,b1,b2⟩:Fr none w w1∧LgB w1 w.heap.size g (.slice A1 g.accs.length c1) (.slice A2 g.lines.length c2) (.slice A3 g.offers.length c3)∧dK w1 (w.heap.size+1) a:=by rw[←hW];exact cW w _ _
 clear hW;have HK:Hid (∀W,Fr none w1 W→(W.cell? ⟨w.heap.size,0,none⟩=some (.int .i64 g.num)∧W.cell? ⟨w.heap.size,1,none⟩=some (.slice A1 g.accs.length c1)∧W.cell? ⟨w.heap.size,2,none⟩=some (.slice A2 g.lines.length c2)∧W.cell? ⟨w.heap.size,3,none⟩=some (.slice A3 g.offers.length c3)∧W.cell? ⟨w.heap.size,4,none⟩=some (.int .i64 g.nid)∧W.cell? ⟨w.heap.size,5,none⟩=some (.int .i64 g.fees)∧W.cell? ⟨w.heap.size,6,none⟩=some (.int .u64 (g.link:Int)))∧W.cell? ⟨w.heap.size+1,0,none⟩=some (.string (bL a.code))∧W.cell? ⟨w.heap.size+1,1,none⟩=some (.int .i64 a.iss)):=fun W FW=>⟨(b1.fr FW).cells,(b2.fr FW).cells⟩;clear b1 b2;obtain⟨⟨k0,k1,k2,k3,k4,k5,k6⟩,k7,k8⟩:=HK.out w1 (Fr.refl _ _);have FA:=F1;clear F1;go_wp2_with fail;refine(rS g.lines _ acc a w1 (HG.out.2.1.fr FA)).mono ?_;rintro e w2 ⟨rfl,F2⟩;have hfs:=rX g.lines acc a;generalize fP g.lines acc a=R at*
 obtain⟨y,FB⟩:=R;have hf2:FB=(bS g.lines acc a).isSome:=hfs;rw[←hf2] at HV;clear hf2 hfs;simp only[lnV];clear k0 k1 k2 k3 k4 k5 k6 k7 k8;have FA:=FA.pure F2;go_upto_region 2 with(fail)
 generalize hW:w2.alloc _=w3;have F3:Fr none w2 w3:=hW▸(Fr.refl none w2).alloc _;clear hW;have FA:=FA.pure F3;have F23:=F2.pure F3;clear F2 F3;obtain⟨⟨k0,k1,k2,k3,k4,k5,k6⟩,k7,k8⟩:=HK.out w3 F23;cases FB with
 |true=>
  have HX:Hid (V=true):=by unfold Hid;rw[HV.out];simp
  clear HV;go_wp2;go_ret;exact⟨aJ (by rw[HX.out]),FA⟩
 |false=>
  go_wp2_with fail;refine(eA a w3).mono ?_;rintro e w4 ⟨rfl,F4⟩;have FA:=FA.pure F4;have F24:=F23.pure F4;clear k0 k1 k2 k3 k4 k5 k6 k7 k8;obtain⟨⟨k0,k1,k2,k3,k4,k5,k6⟩,k7,k8⟩:=HK.out w4 F24;generalize decide (a=nat)=d at*
  cases d with
  |true=>
   have HX:Hid (V=true):=by unfold Hid;rw[HV.out];rfl
   clear HV;go_wp2;go_ret;exact⟨aJ (by rw[HX.out]),FA⟩
  |false=>
   have HX:Hid (V=(a.iss == acc)):=by unfold Hid;rw[HV.out,fE];simp
   clear HV;go_wp2;go_ret;exact⟨aJ (by rw[HX.out]),FA⟩
theorem LgB.zc{w:World}{b:Nat}(h:LgB w b lg0 (.slice none 0 0) (.slice none 0 0) (.slice none 0 0)):w.cell? ⟨b,0,none⟩=some (.int .i64 0)∧w.cell? ⟨b,1,none⟩=some (.slice none 0 0)∧w.cell? ⟨b,2,none⟩=some (.slice none 0 0)∧w.cell? ⟨b,3,none⟩=some (.slice none 0 0)∧w.cell? ⟨b,4,none⟩=some (.int .i64 0)∧w.cell? ⟨b,5,none⟩=some (.int .i64 0)∧w.cell? ⟨b,6,none⟩=some (.int .u64 0)∧w.frozen? ⟨b,0,none⟩=false∧w.frozen? ⟨b,1,none⟩=false∧w.frozen? ⟨b,2,none⟩=false∧w.frozen? ⟨b,3,none⟩=false∧w.frozen? ⟨b,4,none⟩=false∧w.frozen? ⟨b,5,none⟩=false∧w.frozen? ⟨b,6,none⟩=false∧b<w.heap.size:=by
 obtain⟨k0,k1,k2,k3,k4,k5,k6⟩:=h.cells;exact⟨k0,k1,k2,k3,k4,k5,k6,aB h 0,aB h 1,aB h 2,aB h 3,aB h 4,aB h 5,aB h 6,aC h⟩
theorem LgB.set3{w:World}{b:Nat}{g:Lgr}{va vl vo:Value}(h:LgB w b g va vl vo)(v:Value)(g':Lgr)(hg:g'.num=g.num∧g'.nid=g.nid∧g'.fees=g.fees∧g'.link=g.link):LgB (w.setCell ⟨b,3,none⟩ v) b g' va vl v:=by
 have:=aI h 3 v;unfold LgB;rw[hg.1,hg.2.1,hg.2.2.1,hg.2.2.2];simpa using this
theorem tw2{p:Prop}(h:p:=by
 have F9:=(aW (g:=lg0) (va:=.slice none 0 0) (vl:=.slice none 0 0) (vo:=.slice none 0 0) hrb).1;exact⟨.slice none 0 0,.slice none 0 0,.slice none 0 0,by rw[HX.out]<;>rfl,by rw[HX.out];exact OwG.zero _ _,FA.own F9⟩):p:=h
theorem Cv(g:Lgr)(va vl vo:Value)(s id:Int)(w:World)(h:LgS w none g va vl vo):Calls Tryz.prog 81 #[.agg #[.int .i64 g.num,va,vl,vo,.int .i64 g.nid,.int .i64 g.fees,.int .u64 (g.link:Int)],.int .i64 s,.int .i64 id] w (Cs (cnl g s id) w):=by
 obtain⟨V,hV⟩:∃V,V=cnl g s id:=⟨_,rfl⟩;rw[←hV];unfold cnl at hV;have HV:=sH hV;clear hV;obtain⟨A1,c1,rfl, -, -, -⟩:=aN h.1;obtain⟨A2,c2,rfl, -, -, -⟩:=aU h.2.1;obtain⟨A3,c3,rfl,q1,q2,hcc⟩:=bA h.2.2.1;have HC:=sH hcc;have HG:=sH h;clear h hcc;go_enter Tryz.func81,Tryz.ntmps81;go_upto_region 1 with(fail)
 generalize hW:(w.alloc _).alloc _=w1;obtain⟨FA,hlg,hrb⟩:Fr none w w1∧LgB w1 w.heap.size g (.slice A1 g.accs.length c1) (.slice A2 g.lines.length c2) (.slice A3 g.offers.length c3)∧LgB w1 (w.heap.size+1) lg0 (.slice none 0 0) (.slice none 0 0) (.slice none 0 0):=by rw[←hW];exact cW w _ _
 clear hW;obtain⟨k0,k1,k2,k3,k4,k5,k6⟩:=hlg.cells;go_wp2_with fail;refine(eJ g _ _ _ w1 (HG.out.fr FA)).mono ?_;rintro e w2 ⟨rfl,F2⟩;clear k0 k1 k2 k3 k4 k5 k6;have FA:=FA.pure F2;have hlg:=hlg.fr F2;have hrb:=hrb.fr F2;clear F2;obtain⟨C,hC⟩:∃C,C=aH g:=⟨_,rfl⟩;have HCC:=sH hC;rw[←hC] at HV ⊢;clear hC;obtain⟨k0,k1,k2,k3,k4,k5,k6⟩:=hlg.cells;by_cases h0:C=0
 ·subst h0;have HV:=sH (HV.out.trans (if_neg (by simp)));obtain⟨g1,g2, -, -, -⟩:=aS.1 HCC.out.symm;obtain⟨l1,l2, -, -⟩:=bJ.1 g1;obtain⟨a1, -, -⟩:=bI.1 l1;clear g1 l1;go_wp2_with fail;refine(sD g _ _ _ id w2 (HG.out.fr FA)).mono ?_;rintro e w3 ⟨rfl,F3⟩;clear k0 k1 k2 k3 k4 k5 k6;have FA:=FA.pure F3;have hlg:=hlg.fr F3;have hrb:=hrb.fr F3;clear F3;obtain⟨k0,k1,k2,k3,k4,k5,k6⟩:=hlg.cells;rcases fO (p:=isO id) (l:=g.offers) with⟨hi,hp⟩|⟨k,hk,hi,hp⟩
  ·have HX:Hid (V=(lg0,72)):=by unfold Hid;rw[HV.out,hi]
   rw[hp];clear hi hp;obtain⟨m0,m1,m2,m3,m4,m5,m6,y0,y1,y2,y3,y4,y5,y6,ml⟩:=LgB.zc hrb;go_wp2;refine bodyPost_ret (v:=.tuple #[.agg #[.int .i64 0,.slice none 0 0,.slice none 0 0,.slice none 0 0,.int .i64 0,.int .i64 0,.int .u64 0],.int .i64 72]) (by simp[results,Tryz.results81,go_sem,m0,m1,m2,m3,m4,m5,m6]) rfl ?_;exact tw2
  have HV2:Hid (V=if g.offers[k].sel≠s then(lg0,72) else(eU g k,0)):=by unfold Hid;rw[HV.out,hi];simp only[List.getElem?_eq_getElem hk]
  rw[hp];clear hi hp HV;obtain⟨b,off,rfl,hb,_,hcc⟩:=HC.out (by omega);have e1:w3.cell? ⟨b,off+k*9+1,none⟩=some (.int .i64 g.offers[k].sel):=FA.keep (hcc k hk).2.1 (by simp);clear hcc;have hkl:(k:Int)<(g.offers.length:Int):=by omega
  generalize g.offers[k].sel=xs at*
  by_cases hs:xs=s
  ·have HX:=sH (HV2.out.trans (if_neg (by simp[hs])));have hd:(xs !=s)=false:=by simp[hs]
   clear hs HV2;go_wp2_with fail;refine(mY g _ _ _ w3 (HG.out.fr FA) (by omega) (by omega) (by omega)).mono ?_;rintro e w4 ⟨va',vl',vo',rfl,og,F4⟩;obtain⟨A4,c4,rfl⟩:=aO og.a;obtain⟨A5,c5,rfl⟩:=aO og.l;obtain⟨A6,c6,rfl⟩:=aO og.o;clear k0 k1 k2 k3 k4 k5 k6;have HBL:=sH (aC hrb);have HSZ:Hid (w.heap.size≤w3.heap.size):=FA.size;have FA:=FA.pure F4;have hlg:=hlg.fr F4;have hrb:=hrb.fr F4;clear F4 e1;obtain⟨k0,k1,k2,k3,k4,k5,k6⟩:=hlg.cells;have z0:=aB hlg 0;have z1:=aB hlg 1;have z2:=aB hlg 2;have z3:=aB hlg 3;have z4:=aB hlg 4;have z5:=aB hlg 5;have z6:=aB hlg 6;have zl:=aC hlg;go_upto_region 8 with(fail)
   generalize hW:(((((((w4.setCell ⟨w.heap.size,0,none⟩ (.int .i64 g.num)).setCell ⟨w.heap.size,1,none⟩ (.slice A4 g.accs.length c4)).setCell ⟨w.heap.size,2,none⟩ (.slice A5 g.lines.length c5)).setCell ⟨w.heap.size,3,none⟩ (.slice A6 g.offers.length c6)).setCell ⟨w.heap.size,4,none⟩ (.int .i64 g.nid)).setCell ⟨w.heap.size,5,none⟩ (.int .i64 g.fees)).setCell ⟨w.heap.size,6,none⟩ (.int .u64 (g.link:Int)))=w5;obtain⟨F3,hb3⟩:Fr (some w.heap.size) w4 w5∧LgB w5 w.heap.size g (.slice A4 g.accs.length c4) (.slice A5 g.lines.length c5) (.slice A6 g.offers.length c6):=by rw[←hW];exact aW hlg
   clear hW;have FA:=FA.own F3;have hlg:=hb3;have hrb:=hrb.fr F3;have og:=og.fr F3 (fun x e=>by injection e with e;have:=HBL.out;omega);clear F3 hb3;clear k0 k1 k2 k3 k4 k5 k6;clear z0 z1 z2 z3 z4 z5 z6 zl;obtain⟨rb,rfl⟩:=dZ og.o (by omega);have hrbk:=bR og.o rfl;have hne1:=og.ao.symm rb rfl;have hne2:=og.lo.symm rb rfl;have HOG:=sH og;clear og;obtain⟨k0,k1,k2,k3,k4,k5,k6⟩:=hlg.cells;have hk6:k≤1000:=by omega
   have hw1:wrap64 ((k:Int)+1)=(k:Int)+1:=tT hk6;have hw2:IntKind.i64.wrap ((k:Int)+1)=(k:Int)+1:=kF hk6;have hl6:g.offers.length≤1000000:=Nat.le_trans g2 (by decide);go_wp2_with fail;clear hw1 hw2;refine(mZ g.offers rb c6 k w3.heap.size w5 hk hl6 (by omega) HOG.out.o).mono ?_;rintro e w6 ⟨rfl,ow6,F6⟩;clear k0 k1 k2 k3 k4 k5 k6;have hle:(eU g k).offers.length=g.offers.length - 1:=List.length_eraseIdx_of_lt hk;have FA:=FA.own F6 (fun x e=>by injection e with e;have:=HSZ.out;omega);have hlg:=hlg.fr F6 (by have:=HBL.out;simp;omega);have hrb:=hrb.fr F6 (by have:=HBL.out;simp;omega);have og:OwG w6 w3.heap.size (eU g k) (.slice A4 g.accs.length c4) (.slice A5 g.lines.length c5) (.slice (some ⟨rb,0,none⟩) (g.offers.length - 1) c6):=⟨bO HOG.out.a F6 hne1,bO HOG.out.l F6 hne2,by rw[hle];exact ow6,HOG.out.al,HOG.out.ao,HOG.out.lo⟩;have HLE:=sH hle;clear F6 ow6 HOG hne1 hne2 hle;obtain⟨k0,k1,k2,k3,k4,k5,k6⟩:=hlg.cells;have z0:=aB hlg 0;have z1:=aB hlg 1;have z2:=aB hlg 2;have z3:=aB hlg 3;have z4:=aB hlg 4;have z5:=aB hlg 5;have z6:=aB hlg 6;have zl:=aC hlg;go_upto_region 9 with(fail)
   generalize hW:w6.setCell _ _=w7;have F7:Fr (some w.heap.size) w6 w7:=hW▸Fr.set1 w6 ⟨w.heap.size,3,none⟩ _;have hlg2:LgB w7 w.heap.size (eU g k) (.slice A4 g.accs.length c4) (.slice A5 g.lines.length c5) (.slice (some ⟨rb,0,none⟩) (g.offers.length - 1) c6):=by rw[←hW];exact hlg.set3 _ _ ⟨rfl,rfl,rfl,rfl⟩
   have FA:=FA.own F7;have hrb:=hrb.fr F7;have HOG:=sH (og.fr F7 (fun x e=>by injection e with e;have:=HBL.out;omega));clear k0 k1 k2 k3 k4 k5 k6;clear z0 z1 z2 z3 z4 z5 z6 zl;clear hW F7 og hlg;have hlg:=hlg2;obtain⟨k0,k1,k2,k3,k4,k5,k6⟩:=hlg.cells;obtain⟨m0,m1,m2,m3,m4,m5,m6,y0,y1,y2,y3,y4,y5,y6,ml⟩:=LgB.zc hrb;go_wp2;refine bodyPost_ret (v:=.tuple #[.agg #[.int .i64 ((eU g k)).num,(.slice A4 g.accs.length c4),(.slice A5 g.lines.length c5),(.slice (some ⟨rb,0,none⟩) (g.offers.length - 1) c6),.int .i64 ((eU g k)).nid,.int .i64 ((eU g k)).fees,.int .u64 (((eU g k)).link:Int)],.int .i64 0]) (by simp[results,Tryz.results81,go_sem,m0,m1,m2,m3,m4,m5,m6]) rfl ?_;have F9:=(aW (g:=(eU g k)) (va:=(.slice A4 g.accs.length c4)) (vl:=(.slice A5 g.lines.length c5)) (vo:=(.slice (some ⟨rb,0,none⟩) (g.offers.length - 1) c6)) hrb).1;exact⟨_,_,_,by rw[HX.out]<;>rfl,by rw[HX.out];exact(HOG.out.fr F9 (fun x e=>by have e:some (w.heap.size+1)=some x:=e;injection e with e;have:=HBL.out;omega)).base HSZ.out,FA.own F9⟩
  have HX:=sH (HV2.out.trans (if_pos hs));have hd:(xs !=s)=true:=by simp[hs]
  clear hs;obtain⟨m0,m1,m2,m3,m4,m5,m6,y0,y1,y2,y3,y4,y5,y6,ml⟩:=LgB.zc hrb;go_wp2;refine bodyPost_ret (v:=.tuple #[.agg #[.int .i64 0,.slice none 0 0,.slice none 0 0,.slice none 0 0,.int .i64 0,.int .i64 0,.int .u64 0],.int .i64 72]) (by simp[results,Tryz.results81,go_sem,m0,m1,m2,m3,m4,m5,m6]) rfl ?_;exact tw2
 have HX:=sH (HV.out.trans (if_pos h0));have hq:(C !=0)=true:=by simp[h0]
 clear h0;obtain⟨m0,m1,m2,m3,m4,m5,m6,y0,y1,y2,y3,y4,y5,y6,ml⟩:=LgB.zc hrb;go_wp2;refine bodyPost_ret (v:=.tuple #[.agg #[.int .i64 0,.slice none 0 0,.slice none 0 0,.slice none 0 0,.int .i64 0,.int .i64 0,.int .u64 0],.int .i64 C]) (by simp[results,Tryz.results81,go_sem,m0,m1,m2,m3,m4,m5,m6]) rfl ?_;exact tw2
theorem Ex(a b c d:Int):Wi (vQ a b c d):=by
 unfold vQ;split
 ·exact kN _ _
 exact⟨by decide,by decide⟩
theorem Cw(x y:Ofr)(w:World):Calls Tryz.prog 212 #[.agg #[.int .i64 x.id,.int .i64 x.sel,.string (bL x.sg.code),.int .i64 x.sg.iss,.string (bL x.by_.code),.int .i64 x.by_.iss,.int .i64 x.amt,.int .i64 x.num,.int .i64 x.den],.agg #[.int .i64 y.id,.int .i64 y.sel,.string (bL y.sg.code),.int .i64 y.sg.iss,.string (bL y.by_.code),.int .i64 y.by_.iss,.int .i64 y.amt,.int .i64 y.num,.int .i64 y.den]] w fun e w'=>e= .returned (.int .i64 (btr x y))∧Fr none w w'∧w.drawn≤w'.drawn:=by
 obtain⟨C1,hC1⟩:∃C,C=vQ x.num x.den y.num y.den:=⟨_,rfl⟩;obtain⟨C2,hC2⟩:∃C,C=fT x.id y.id:=⟨_,rfl⟩;have HE:Hid (orL [C1,C2]=btr x y):=by unfold Hid btr;rw[hC1,hC2]
 have HW:Hid (∀n ∈ [C1,C2],Wi n):=by unfold Hid;rw[hC1,hC2];simp[kN,Ex]
 have H1:=sH hC1;have H2:=sH hC2;clear hC1 hC2;go_enter Tryz.func212,Tryz.ntmps212;go_upto_region 1 with(fail)
 generalize hW:(w.alloc _).alloc _=w1;obtain⟨FF,b1,b2⟩:Fr none w w1∧OfB w1 w.heap.size x∧OfB w1 (w.heap.size+1) y:=by rw[←hW];exact cW w _ _
 have hdr:w.drawn≤w1.drawn:=by rw[←hW];exact Nat.le_refl _
 clear hW;refine aL (fun W=>Fr none w1 W∧w1.drawn≤W.drawn) 14 21 [some 18,some 17,some 16,some 15,some 14,some 13,some 12,some 11,some 10,some 9,some 8,some 7,some 6,some 5] (by kernel_rfl) (by kernel_rfl) (by kernel_rfl) (Nat.le_refl _) (⟨(Fr.refl _ _).drew,Nat.le_succ _⟩) ?_;refine FxL.p [] [2] ?_;have HF1:=sH (fun(w:World) (hS:(fun W=>Fr none w1 W∧w1.drawn≤W.drawn) w)=>And.intro ((b1.fr hS.1).cells) ((b2.fr hS.1).cells));refine FxL.q HF1.out [(0,0,5)] [] ?_;refine FxL.p [] [2] ?_;refine FxL.q HF1.out [(0,2,7)] [] ?_;refine FxL.p [] [3] ?_;refine FxL.q HF1.out [(0,4,9)] [] ?_;refine FxL.p [] [3] ?_;refine FxL.q HF1.out [(0,6,11)] [] ?_;refine FxL.call (v:=?_) (f:=?_) (args:=?_) rfl (fun ev w hS E=>?_) (fun w hS=>?_) ?_;rotate_left 3
 ·obtain⟨c0,c1,c2,c3,c4,c5,c6,c7,c8⟩:=(b1.fr hS.1).cells;obtain⟨d0,d1,d2,d3,d4,d5,d6,d7,d8⟩:=(b2.fr hS.1).cells;obtain⟨t6,t8,t10,t12,ec,ef,eg⟩:=E.get [(6,1,6),(4,3,8),(2,5,10),(0,7,12)] [] (by kernel_rfl);clear E;simp only[aG] at t6 t8 t10 t12;go_simp;first|(refine And.intro ?_ ?_<;>with_reducible rfl)|with_reducible rfl
 ·obtain⟨c0,c1,c2,c3,c4,c5,c6,c7,c8⟩:=(b1.fr hS.1).cells;obtain⟨d0,d1,d2,d3,d4,d5,d6,d7,d8⟩:=(b2.fr hS.1).cells;refine(AD x.num x.den y.num y.den w).mono ?_;rintro e w2 ⟨rfl,rfl⟩;refine⟨?_,hS⟩;with_reducible rfl
 refine FxL.p [] [2] ?_;refine FxL.q HF1.out [(0,9,14)] [] ?_;refine FxL.p [] [3] ?_;refine FxL.q HF1.out [(0,11,16)] [] ?_;refine FxL.call (v:=?_) (f:=?_) (args:=?_) rfl (fun ev w hS E=>?_) (fun w hS=>?_) ?_;rotate_left 3
 ·obtain⟨c0,c1,c2,c3,c4,c5,c6,c7,c8⟩:=(b1.fr hS.1).cells;obtain⟨d0,d1,d2,d3,d4,d5,d6,d7,d8⟩:=(b2.fr hS.1).cells;obtain⟨t15,t17,ec,ef,eg⟩:=E.get [(2,10,15),(0,12,17)] [] (by kernel_rfl);clear E;simp only[aG] at t15 t17;go_simp;first|(refine And.intro ?_ ?_<;>with_reducible rfl)|with_reducible rfl
 ·obtain⟨c0,c1,c2,c3,c4,c5,c6,c7,c8⟩:=(b1.fr hS.1).cells;obtain⟨d0,d1,d2,d3,d4,d5,d6,d7,d8⟩:=(b2.fr hS.1).cells;refine(dC x.id y.id w).mono ?_;rintro e w2 ⟨rfl,rfl⟩;refine⟨?_,hS⟩;with_reducible rfl
 refine FxL.done (fun W hW=>?_);simp only[bF];try simp only[sI]
 try simp only[sK]
 rw[←H1.out,←H2.out];go_wp2_with fail;refine(sW [C1,C2] _ _ none ⟨SlD.lit_dm (r:=none) #[.int .i64 C1,.int .i64 C2] 3 2 1 rfl (by decide) (by simp) (Fr.refl _ _),HW.out⟩).mono ?_;rintro e5 w5 ⟨rfl,rfl⟩;go_wp2;go_ret;exact⟨by rw[HE.out];rfl,FF.pure (hW.1.alloc _),Nat.le_trans hdr hW.2⟩
end Go.Proofs.YthaggndnfamhjaaGreatDoor
