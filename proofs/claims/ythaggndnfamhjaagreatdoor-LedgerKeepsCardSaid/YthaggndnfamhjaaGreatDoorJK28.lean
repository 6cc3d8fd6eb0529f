/- Texts, joined. -/
import Derived.Test.YthaggndnfamhjaaGreatDoorProg
import Derived.Test.YthaggndnfamhjaaGreatDoorJK27
import Derived.Test.YthaggndnfamhjaaGreatDoorJK18
import Derived.Test.YthaggndnfamhjaaGreatDoorJK22
import Derived.Laws.OwnMore
import Derived.BigQuiet
import Derived.Test.YthaggndnfamhjaaGreatDoorJA

set_option linter.unusedSimpArgs false
set_option linter.unusedVariables false
set_option maxRecDepth 100000
set_option maxHeartbeats 16000000
namespace Go.Proofs.YthaggndnfamhjaaGreatDoor
open Go.RowKit
theorem fE{a b:Int}:(a == b)=decide (a=b):=by
 by_cases h:a=b
 ·subst h;simp
 rw[decide_eq_false h,beq_eq_false_iff_ne];exact h
theorem AB(y:aQ)(id:Int)(bx:Nat)(w:World)(h:w.cell? ⟨bx,0,none⟩=some (.int .i64 id)):Calls Tryz.prog 108 #[.agg #[.int .i64 y.id,.int .i64 y.bal,.int .i64 y.seq],.pointer (some ⟨bx,0,none⟩)] w fun e w'=>e= .returned (.bool (isA id y))∧Fr none w w':=by
 have HX:Hid ((y.id == id)=isA id y):=fE;go_enter Tryz.func108,Tryz.ntmps108;go_upto_region 1 with(fail)
 generalize hW:w.alloc _=w1;have F1:Fr none w w1:=hW▸(Fr.refl none w).alloc _;have b1:w1.heap[w.heap.size]?=some (.cells #[.int .i64 y.id,.int .i64 y.bal,.int .i64 y.seq] 59 (0,0)):=by rw[←hW];exact aD _ _
 have c0:w1.cell? ⟨w.heap.size,0,none⟩=some (.int .i64 y.id):=by rw[aA b1];rfl
 have c1:=F1.keep h;clear hW h;go_wp2;go_ret;exact⟨aJ (by rw[←HX.out]),F1⟩
theorem tQ:∀args w,Sem.run Tryz.prog (callFunc 108 args) w= .ok (.enter 108 args) w:=fun _ _=>by kernel_rfl
theorem mD(l:List aQ)(v:Value)(id:Int)(w:World)(h:SlR aP w none v l):Calls Tryz.prog 76 #[v,.int .i64 id] w fun e w'=>e= .returned (.int .i64 (tL l id))∧Fr none w w':=by
 have HX:=sH h;obtain⟨A,c,hv,q1,q2,_⟩:=h.open_;subst hv;clear h;unfold tL;go_enter Tryz.func76,Tryz.ntmps76;go_upto_region 1 with(fail)
 generalize hW:w.alloc _=w1;have F1:Fr none w w1:=hW▸(Fr.refl none w).alloc _;have HC:Hid (w1.cell? ⟨w.heap.size,0,none⟩=some (.int .i64 id)):=by unfold Hid;rw[←hW,dS];rfl
 clear hW;go_wp2_with fail;refine(yS (isA id) 108 #[.pointer (some ⟨w.heap.size,0,none⟩)] tQ l _ w1 (HX.out.fr F1) (fun y _ W FW=>AB y id w.heap.size W (FW.keep HC.out))).mono ?_;rintro e w2 ⟨rfl,F2⟩;go_wp2;go_ret;exact⟨rfl,F1.pure F2⟩
theorem gW(l:List aQ)(v:Value)(id:Int)(w:World)(h:SlR aP w none v l):Calls Tryz.prog 41 #[v,.int .i64 id] w fun e w'=>e= .returned (.tuple #[.agg #[.int .i64 (dR l id).1.id,.int .i64 (dR l id).1.bal,.int .i64 (dR l id).1.seq],.bool (dR l id).2])∧Fr none w w':=by
 obtain⟨A,c,rfl,q1,q2,hc⟩:=aN h;have HC:=sH hc;clear hc;go_enter Tryz.func41,Tryz.ntmps41;go_upto_region 1 with(fail)
 generalize hW:w.alloc _=w1;have F1:Fr none w w1:=hW▸(Fr.refl none w).alloc _;have b4:w1.heap[w.heap.size]?=some (.cells #[.int .i64 0,.int .i64 0,.int .i64 0] 59 (0,0)):=by rw[←hW];exact aD _ _
 clear hW;go_wp2_with fail;refine(mD l _ id w1 (h.fr F1)).mono ?_;rintro e w2 ⟨rfl,F2⟩;unfold tL;have b4:=aF b4 F2 (by simp);have F02:=F1.pure F2;have l4:=aC b4;have r0:w2.cell? ⟨w.heap.size,0,none⟩=some (.int .i64 0):=by rw[aA b4];rfl
 have r1:w2.cell? ⟨w.heap.size,1,none⟩=some (.int .i64 0):=by rw[aA b4];rfl
 have r2:w2.cell? ⟨w.heap.size,2,none⟩=some (.int .i64 0):=by rw[aA b4];rfl
 have f0:=aB b4 0;have f1:=aB b4 1;have f2:=aB b4 2;rcases fI (isA id) l with⟨hi,hf⟩|⟨k,hk,hi,hf,_⟩
 ·have HR:Hid (dR l id=(FV,false)):=by unfold Hid dR aK;rw[hf]
  rw[hi];clear hi hf;go_wp2;refine bodyPost_ret (v:=.tuple #[.agg #[.int .i64 0,.int .i64 0,.int .i64 0],.bool false]) (by simp[results,Tryz.results41,go_sem,r0,r1,r2]) rfl ?_;have FF:=((Fr.set1 w2 ⟨w.heap.size,0,none⟩ (.int .i64 0)).same (Fr.set1 _ ⟨w.heap.size,1,none⟩ (.int .i64 0))).same (Fr.set1 _ ⟨w.heap.size,2,none⟩ (.int .i64 0));exact⟨by rw[HR.out]<;>rfl,F02.own FF⟩
 obtain⟨b,off,rfl,hb,_,hcc⟩:=HC.out (by omega);obtain⟨c1,c2,c3⟩:=hcc k hk;have c1:=F02.keep c1;have c2:=F02.keep c2;have c3:=F02.keep c3;have HR:Hid (dR l id=(l[k],true)):=by unfold Hid dR aK;rw[hf]
 rw[hi];clear hi hf hcc;generalize l[k]=x at*
 go_wp2;refine bodyPost_ret (v:=.tuple #[.agg #[.int .i64 x.id,.int .i64 x.bal,.int .i64 x.seq],.bool true]) (by simp[results,Tryz.results41,go_sem,r0,r1,r2]) rfl ?_;have FF:=((Fr.set1 w2 ⟨w.heap.size,0,none⟩ (.int .i64 x.id)).same (Fr.set1 _ ⟨w.heap.size,1,none⟩ (.int .i64 x.bal))).same (Fr.set1 _ ⟨w.heap.size,2,none⟩ (.int .i64 x.seq));exact⟨by rw[HR.out]<;>rfl,F02.own FF⟩
def rgt(e:Int):Int:=if e=0 then 0 else 74
theorem vU(l:List aQ)(v:Value)(w:World)(h:SlR aP w none v l):Calls Tryz.prog 93 #[v] w fun e w'=>e= .returned (.int .i64 (rgt (cC l)))∧Fr none w w':=by
 have hc:=iU l v w h;obtain⟨A,c,hv,q1,q2,_⟩:=h.open_;subst hv;clear h;generalize cC l=z at*
 by_cases hz:z=0
 ·have HX:Hid (rgt z=0):=by unfold Hid rgt;rw[if_pos hz]
  have q:(z !=0)=false:=by simp[hz]
  clear hz;go_enter Tryz.func93,Tryz.ntmps93;go_wp2_with fail;refine hc.mono ?_;rintro e w1 ⟨rfl,F1⟩;go_wp2;go_ret;exact⟨aM HX.out.symm,F1⟩
 have HX:Hid (rgt z=74):=by unfold Hid rgt;rw[if_neg hz]
 have q:(z !=0)=true:=by simp[hz]
 clear hz;go_enter Tryz.func93,Tryz.ntmps93;go_wp2_with fail;refine hc.mono ?_;rintro e w1 ⟨rfl,F1⟩;go_wp2;go_ret;exact⟨aM HX.out.symm,F1⟩
theorem Eu(x:Ln)(acc:Int)(a:Ast):decide (0≤qF x acc a)= !eP x acc a:=by
 rcases lG x acc a with⟨h,k⟩|⟨h,k,k2⟩|⟨h,k⟩
 ·rw[k,decide_eq_false (by omega)];rfl
 ·have:eP x acc a=false:=by unfold eP;simp[k,k2,rJ]
  rw[this,decide_eq_true (by omega)];rfl
 have:eP x acc a=false:=by
  unfold eP;rcases k with k|⟨k1,k2⟩
  ·simp[show ¬x.acc<acc by omega,show ¬x.acc=acc by omega]
  have:eK x.ast a=false:=by
   cases e:eK x.ast a with
   |false=>rfl
   |true=>have:=nL k2 e;rw[rJ] at this;cases this
  simp[k1,this]
 rw[this,decide_eq_true (by omega)];rfl
theorem Gn{l:List Int}(h:∀x ∈ l,Wi x):Wi (orL l):=by
 induction l with
 |nil=>exact⟨by decide,by decide⟩
 |cons x r ih=>
  unfold orL;split
  ·exact ih fun y hy=>h y (List.mem_cons_of_mem _ hy)
  exact h x (List.mem_cons_self ..)
theorem Cn(a b:Ast):Wi (kB a b):=by
 unfold kB;exact Gn (by simp[kN,Ca])
def LnB(w:World)(b:Nat)(x:Ln):Prop:=w.heap[b]?=some (.cells #[.int .i64 x.acc,.string (bL x.ast.code),.int .i64 x.ast.iss,.int .i64 x.bal,.int .i64 x.lim] 74 (0,0))
theorem LnB.fr{w w':World}{b:Nat}{a:Ln}{r:Option Nat}(h:LnB w b a)(f:Fr r w w')(hr:r≠some b:=by simp):LnB w' b a:=aF h f hr
theorem LnB.cells{w:World}{b:Nat}{x:Ln}(h:LnB w b x):w.cell? ⟨b,0,none⟩=some (.int .i64 x.acc)∧w.cell? ⟨b,1,none⟩=some (.string (bL x.ast.code))∧w.cell? ⟨b,2,none⟩=some (.int .i64 x.ast.iss)∧w.cell? ⟨b,3,none⟩=some (.int .i64 x.bal)∧w.cell? ⟨b,4,none⟩=some (.int .i64 x.lim):=by
 refine⟨?_,?_,?_,?_,?_⟩<;>(rw[aA h];rfl)
def KyB(w:World)(b:Nat)(acc:Int)(a:Ast):Prop:=w.heap[b]?=some (.cells #[.int .i64 acc,.string (bL a.code),.int .i64 a.iss] 136 (0,0))
theorem KyB.fr{w w':World}{b:Nat}{acc:Int}{a:Ast}{r:Option Nat}(h:KyB w b acc a)(f:Fr r w w')(hr:r≠some b:=by simp):KyB w' b acc a:=aF h f hr
theorem KyB.cells{w:World}{b:Nat}{acc:Int}{a:Ast}(h:KyB w b acc a):w.cell? ⟨b,0,none⟩=some (.int .i64 acc)∧w.cell? ⟨b,1,none⟩=some (.string (bL a.code))∧w.cell? ⟨b,2,none⟩=some (.int .i64 a.iss):=by
 refine⟨?_,?_,?_⟩<;>(rw[aA h];rfl)
theorem oE(x:Ln)(w:World):Calls Tryz.prog 89 #[.agg #[.int .i64 x.acc,.string (bL x.ast.code),.int .i64 x.ast.iss,.int .i64 x.bal,.int .i64 x.lim]] w fun e w'=>e= .returned (.agg #[.int .i64 x.acc,.string (bL x.ast.code),.int .i64 x.ast.iss])∧Fr none w w':=by
 go_enter Tryz.func89,Tryz.ntmps89;go_upto_region 1 with(fail)
 generalize hW:w.alloc _=wa;have F1:Fr none w wa:=hW▸(Fr.refl none w).alloc _;have b1:LnB wa w.heap.size x:=by rw[←hW];exact aD _ _
 have sa:w.heap.size+1=wa.heap.size:=by rw[←hW];exact(Array.size_push _).symm
 clear hW;generalize hW:wa.alloc _=w1;have F2:Fr none wa w1:=hW▸(Fr.refl none wa).alloc _;have b4:w1.heap[w.heap.size+1]?=some (.cells #[.int .i64 0,.string ⟨#[]⟩,.int .i64 0] 136 (0,0)):=by rw[←hW,sa];exact aD _ _
 have b1:=b1.fr F2;clear hW sa;have FF:=F1.pure F2;clear F1 F2;obtain⟨c0,c1,c2,c3,c4⟩:=b1.cells;have l4:=aC b4;have z0:World.cell? w1 ⟨w.heap.size+1,0,none⟩=some (.int .i64 0):=by rw[aA b4];rfl
 have z1:World.cell? w1 ⟨w.heap.size+1,1,none⟩=some (.string ⟨#[]⟩):=by rw[aA b4];rfl
 have z2:World.cell? w1 ⟨w.heap.size+1,2,none⟩=some (.int .i64 0):=by rw[aA b4];rfl
 have y0:=aB b4 0;have y1:=aB b4 1;have y2:=aB b4 2;go_wp2;refine bodyPost_ret (v:=.agg #[.int .i64 x.acc,.string (bL x.ast.code),.int .i64 x.ast.iss]) (by simp[results,Tryz.results89,go_sem,z0,z1,z2]) rfl ?_;have F3:=((Fr.set1 w1 ⟨w.heap.size+1,0,none⟩ (.int .i64 x.acc)).same (Fr.set1 _ ⟨w.heap.size+1,1,none⟩ (.string (bL x.ast.code)))).same (Fr.set1 _ ⟨w.heap.size+1,2,none⟩ (.int .i64 x.ast.iss));exact⟨rfl,FF.own F3⟩
theorem vV(x:Ln)(acc:Int)(a:Ast)(w:World):Calls Tryz.prog 90 #[.agg #[.int .i64 x.acc,.string (bL x.ast.code),.int .i64 x.ast.iss],.agg #[.int .i64 acc,.string (bL a.code),.int .i64 a.iss]] w fun e w'=>e= .returned (.int .i64 (qF x acc a))∧Fr none w w':=by
 obtain⟨C1,hC1⟩:∃C,C=fT x.acc acc:=⟨_,rfl⟩;obtain⟨C2,hC2⟩:∃C,C=kB x.ast a:=⟨_,rfl⟩;have HE:Hid (orL [C1,C2]=qF x acc a):=by unfold Hid qF;rw[hC1,hC2]
 have HW:Hid (∀n ∈ [C1,C2],Wi n):=by unfold Hid;rw[hC1,hC2];simp[kN,Cn]
 have H1:=sH hC1;have H2:=sH hC2;clear hC1 hC2;go_enter Tryz.func90,Tryz.ntmps90;go_upto_region 1 with(fail)
 generalize hW:w.alloc _=wa;have F1:Fr none w wa:=hW▸(Fr.refl none w).alloc _;have b1:KyB wa w.heap.size x.acc x.ast:=by rw[←hW];exact aD _ _
 have sa:w.heap.size+1=wa.heap.size:=by rw[←hW];exact(Array.size_push _).symm
 clear hW;generalize hW:wa.alloc _=w1;have F2:Fr none wa w1:=hW▸(Fr.refl none wa).alloc _;have b2:KyB w1 (w.heap.size+1) acc a:=by rw[←hW,sa];exact aD _ _
 have b1:=b1.fr F2;clear hW sa;have FF:=F1.pure F2;clear F1 F2;refine aL (fun W=>Fr none w1 W) 10 17 [some 14,some 13,some 12,some 11,some 10,some 9,some 8,some 7,some 6,some 5] (by kernel_rfl) (by kernel_rfl) (by kernel_rfl) (Nat.le_refl _) ((Fr.refl _ _).drew) ?_;refine FxL.p [] [2] ?_;have HF1:=sH (fun(w:World) (hS:(fun W=>Fr none w1 W) w)=>And.intro ((b1.fr hS).cells) ((b2.fr hS).cells));refine FxL.q HF1.out [(0,0,5)] [] ?_;refine FxL.p [] [3] ?_;refine FxL.q HF1.out [(0,2,7)] [] ?_;refine FxL.call (v:=?_) (f:=?_) (args:=?_) rfl (fun ev w hS E=>?_) (fun w hS=>?_) ?_;rotate_left 3
 ·obtain⟨c0,c1,c2⟩:=(b1.fr hS).cells;obtain⟨d0,d1,d2⟩:=(b2.fr hS).cells;obtain⟨t6,t8,ec,ef,eg⟩:=E.get [(2,1,6),(0,3,8)] [] (by kernel_rfl);clear E;simp only[aG] at t6 t8;go_simp;first|(refine And.intro ?_ ?_<;>with_reducible rfl)|with_reducible rfl
 ·obtain⟨c0,c1,c2⟩:=(b1.fr hS).cells;obtain⟨d0,d1,d2⟩:=(b2.fr hS).cells;refine(dC x.acc acc w).mono ?_;rintro e w2 ⟨rfl,rfl⟩;refine⟨?_,hS⟩;with_reducible rfl
 refine FxL.p [] [2] ?_;refine FxL.q HF1.out [(0,5,10)] [] ?_;refine FxL.p [] [3] ?_;refine FxL.q HF1.out [(0,7,12)] [] ?_;refine FxL.c [(2,6,11),(0,8,13)] [] (fun w hS=>Ck x.ast a w) ?_;refine FxL.done (fun W hW=>?_);simp only[bF];try simp only[sI]
 try simp only[sK]
 rw[←H1.out,←H2.out];go_wp2_with fail;refine(sW [C1,C2] _ _ none ⟨SlD.lit_dm (r:=none) #[.int .i64 C1,.int .i64 C2] 3 2 1 rfl (by decide) (by simp) (Fr.refl _ _),HW.out⟩).mono ?_;rintro e5 w5 ⟨rfl,rfl⟩;go_wp2;go_ret;exact⟨by rw[HE.out];rfl,FF.pure (hW.alloc _)⟩
theorem Gr{y:Ln}{acc:Int}{a:Ast}{Q:Bool}(h:Q=isL acc a y)(w:World):(if y.acc=acc then
   if(bL y.ast.code).toList=(bL a.code).toList then
    if y.ast.iss=a.iss then Result.ok (Next.value (Value.bool true)) w
    else Result.ok (Next.value (Value.bool false)) w
   else Result.ok (Next.value (Value.bool false)) w
  else Result.ok (Next.value (Value.bool false)) w)=Result.ok (Next.value (Value.bool Q)) w:=by
 subst h;obtain⟨acc',⟨c,i⟩,b,l⟩:=y;obtain⟨d,j⟩:=a;unfold isL;rw[bQ,bQ];simp only[Ast.mk.injEq];by_cases h1:acc'=acc
 ·by_cases h2:c=d
  ·by_cases h3:i=j
   ·simp[h1,h2,h3]
   simp[h1,h2,h3]
  simp[h1,h2]
 simp[h1]
theorem AC(y:Ln)(acc:Int)(a:Ast)(bx ba:Nat)(w:World)(h:w.cell? ⟨bx,0,none⟩=some (.int .i64 acc))(ha:dK w ba a):Calls Tryz.prog 177 #[.agg #[.int .i64 y.acc,.string (bL y.ast.code),.int .i64 y.ast.iss,.int .i64 y.bal,.int .i64 y.lim],.pointer (some ⟨bx,0,none⟩),.pointer (some ⟨ba,0,none⟩)] w fun e w'=>e= .returned (.bool (isL acc a y))∧Fr none w w':=by
 obtain⟨Q,hQ⟩:∃Q,Q=isL acc a y:=⟨_,rfl⟩;have HQ:=sH hQ;rw[←hQ];clear hQ;go_enter Tryz.func177,Tryz.ntmps177;go_upto_region 1 with(fail)
 generalize hW:w.alloc _=w1;have F1:Fr none w w1:=hW▸(Fr.refl none w).alloc _;have b1:LnB w1 w.heap.size y:=by rw[←hW];exact aD _ _
 have c8:=F1.keep h;have b2:=ha.fr F1;clear hW h ha;refine aL (fun W=>Fr none w1 W) 7 11 [some 4,some 10,some 9,some 8,some 7,some 6,some 5] (by kernel_rfl) (by kernel_rfl) (by kernel_rfl) (Nat.le_refl _) ((Fr.refl _ _).drew) ?_;have HF2:=sH (fun(w:World) (hS:(fun W=>Fr none w1 W) w)=>And.intro ((b1.fr hS).cells) (And.intro ((b2.fr hS).cells) (hS.keep c8)));refine FxL.q HF2.out [] [3] ?_;refine FxL.c [(0,0,5)] [] (fun w hS=>oE y w) ?_;refine FxL.q HF2.out [] [1] ?_;refine FxL.q HF2.out [] [2] ?_;refine FxL.p [(1,2,7),(0,3,8)] [] ?_;refine FxL.pure (v:=.bool Q) rfl (fun ev w hS E=>?_) ?_
 ·obtain⟨t6,t9,ec,ef,eg⟩:=E.get [(3,1,6),(0,4,9)] [] (by kernel_rfl);clear E;simp only[aG] at t6 t9;go_simp;exact Gr HQ.out w
 refine FxL.p [(0,5,10)] [] ?_;refine FxL.done (fun W hW=>?_);simp only[bF];try simp only[sI]
 try simp only[sK]
 go_wp2;go_ret;exact⟨rfl,F1.pure hW⟩
theorem tR:∀args w,Sem.run Tryz.prog (callFunc 177 args) w= .ok (.enter 177 args) w:=fun _ _=>by kernel_rfl
theorem mW(l:List Ln)(v:Value)(acc:Int)(a:Ast)(w:World)(h:SlR lnR w none v l):Calls Tryz.prog 147 #[v,.int .i64 acc,.agg #[.string (bL a.code),.int .i64 a.iss]] w fun e w'=>e= .returned (.int .i64 (dG (isL acc a) l))∧Fr none w w':=by
 have HX:=sH h;obtain⟨A,c,hv,q1,q2,_⟩:=h.open_;subst hv;clear h;go_enter Tryz.func147,Tryz.ntmps147;go_upto_region 1 with(fail)
 generalize hW:w.alloc _=wa;have F1:Fr none w wa:=hW▸(Fr.refl none w).alloc _;have HC:Hid (wa.cell? ⟨w.heap.size,0,none⟩=some (.int .i64 acc)):=by unfold Hid;rw[←hW,dS];rfl
 have sa:w.heap.size+1=wa.heap.size:=by rw[←hW];exact(Array.size_push _).symm
 clear hW;generalize hW:wa.alloc _=w1;have F2:Fr none wa w1:=hW▸(Fr.refl none wa).alloc _;have HA:Hid (dK w1 (w.heap.size+1) a):=by unfold Hid;rw[←hW,sa];exact aD _ _
 have HC:Hid (w1.cell? ⟨w.heap.size,0,none⟩=some (.int .i64 acc)):=F2.keep HC.out;clear hW sa;have FF:=F1.pure F2;clear F1 F2;go_wp2_with fail;refine(yT (isL acc a) 177 #[.pointer (some ⟨w.heap.size,0,none⟩),.pointer (some ⟨w.heap.size+1,0,none⟩)] tR l _ w1 (HX.out.fr FF) (fun y _ W FW=>AC y acc a w.heap.size (w.heap.size+1) W (FW.keep HC.out) (HA.out.fr FW))).mono ?_;rintro e w2 ⟨rfl,F2⟩;go_wp2;go_ret;exact⟨rfl,FF.pure F2⟩
theorem bLe:bL []=⟨#[]⟩:=rfl
theorem rS(l:List Ln)(v:Value)(acc:Int)(a:Ast)(w:World)(h:SlR lnR w none v l):Calls Tryz.prog 152 #[v,.int .i64 acc,.agg #[.string (bL a.code),.int .i64 a.iss]] w fun e w'=>e= .returned (.tuple #[lnV (fP l acc a).1,.bool (fP l acc a).2])∧Fr none w w':=by
 obtain⟨A,c,rfl,q1,q2,hc⟩:=aU h;have HC:=sH hc;have HS:=sH h;clear hc h;go_enter Tryz.func152,Tryz.ntmps152;go_upto_region 1 with(fail)
 generalize hW:w.alloc _=wa;have F1:Fr none w wa:=hW▸(Fr.refl none w).alloc _;have b1:dK wa w.heap.size a:=by rw[←hW];exact aD _ _
 have sa:w.heap.size+1=wa.heap.size:=by rw[←hW];exact(Array.size_push _).symm
 clear hW;generalize hW:wa.alloc _=w1;have F2:Fr none wa w1:=hW▸(Fr.refl none wa).alloc _;have b4:w1.heap[w.heap.size+1]?=some (.cells #[.int .i64 0,.string ⟨#[]⟩,.int .i64 0,.int .i64 0,.int .i64 0] 74 (0,0)):=by rw[←hW,sa];exact aD _ _
 have b1:=b1.fr F2;have FF:=F1.pure F2;clear hW sa F1 F2;obtain⟨e0,e1⟩:=b1.cells;go_wp2_with fail;refine(mW l _ acc a w1 (HS.out.fr FF)).mono ?_;rintro e w2 ⟨rfl,F2⟩;have b4:=aF b4 F2 (by simp);have F02:=FF.pure F2;have l4:=aC b4;have r0:w2.cell? ⟨w.heap.size+1,0,none⟩=some (.int .i64 0):=by rw[aA b4];rfl
 have r1:w2.cell? ⟨w.heap.size+1,1,none⟩=some (.string ⟨#[]⟩):=by rw[aA b4];rfl
 have r2:w2.cell? ⟨w.heap.size+1,2,none⟩=some (.int .i64 0):=by rw[aA b4];rfl
 have r3:w2.cell? ⟨w.heap.size+1,3,none⟩=some (.int .i64 0):=by rw[aA b4];rfl
 have r4:w2.cell? ⟨w.heap.size+1,4,none⟩=some (.int .i64 0):=by rw[aA b4];rfl
 have f0:=aB b4 0;have f1:=aB b4 1;have f2:=aB b4 2;have f3:=aB b4 3;have f4:=aB b4 4;clear b1 e0 e1 FF;rcases fI (isL acc a) l with⟨hi,hf⟩|⟨k,hk,hi,hf,_⟩
 ·have HR:Hid (fP l acc a=(ln0,false)):=by unfold Hid fP bS;rw[hf]
  rw[hi];clear hi hf;go_wp2;refine bodyPost_ret (v:=.tuple #[lnV ln0,.bool false]) (by simp[lnV,ln0,nat,results,Tryz.results152,go_sem,r0,r1,r2,r3,r4,↓bLe]) rfl ?_;have FF:=((((Fr.set1 w2 ⟨w.heap.size+1,0,none⟩ (.int .i64 (ln0).acc)).same (Fr.set1 _ ⟨w.heap.size+1,1,none⟩ (.string (bL (ln0).ast.code)))).same (Fr.set1 _ ⟨w.heap.size+1,2,none⟩ (.int .i64 (ln0).ast.iss))).same (Fr.set1 _ ⟨w.heap.size+1,3,none⟩ (.int .i64 (ln0).bal))).same (Fr.set1 _ ⟨w.heap.size+1,4,none⟩ (.int .i64 (ln0).lim));exact⟨by rw[HR.out],F02.own FF⟩
 obtain⟨b,off,rfl,hb,_,hcc⟩:=HC.out (by omega);obtain⟨c1,c2,c3,c4,c5⟩:=hcc k hk;have c1:=F02.keep c1;have c2:=F02.keep c2;have c3:=F02.keep c3;have c4:=F02.keep c4;have c5:=F02.keep c5;have HR:Hid (fP l acc a=(l[k],true)):=by unfold Hid fP bS;rw[hf]
 rw[hi];clear hi hf hcc;generalize l[k]=x at*
 go_wp2;refine bodyPost_ret (v:=.tuple #[lnV x,.bool true]) (by simp[lnV,ln0,nat,results,Tryz.results152,go_sem,r0,r1,r2,r3,r4,↓bLe]) rfl ?_;have FF:=((((Fr.set1 w2 ⟨w.heap.size+1,0,none⟩ (.int .i64 (x).acc)).same (Fr.set1 _ ⟨w.heap.size+1,1,none⟩ (.string (bL (x).ast.code)))).same (Fr.set1 _ ⟨w.heap.size+1,2,none⟩ (.int .i64 (x).ast.iss))).same (Fr.set1 _ ⟨w.heap.size+1,3,none⟩ (.int .i64 (x).bal))).same (Fr.set1 _ ⟨w.heap.size+1,4,none⟩ (.int .i64 (x).lim));exact⟨by rw[HR.out],F02.own FF⟩
theorem fV{z:Int}(h: -9223372036854775808≤z)(h2:z≤9223372036854775807):wrap64 z=z:=by
 unfold wrap64;omega
theorem rU(out:Int)(l:List Int)(v:Value)(w:World)(base:Nat)(hb:base≤w.heap.size)(hl:l.length≤1000)(h:w.ownsRow base 3 1 v l.length (l.map (Value.int .i64))):
  Calls Tryz.prog 65 #[.int .i64 out,v] w fun e w'=>e= .returned (.tuple #[.int .i64 (lB out l).1,.int .i64 (lB out l).2])∧Fr v.ownBlock w w':=by
 obtain⟨A,n,c,hv,hn,_⟩:=SlD.own_dn h;have hn:n=l.length:=by simpa using hn.symm
 subst hn hv;have HO:=sH h;clear h;go_enter Tryz.func65,Tryz.ntmps65;go_wp2_with (at_builtin;refine iW Hw rfl _ _ rfl base A l.length c _ rfl HO.out 1 [.int .i64 out] _ _ rfl (by simp) rfl (by simp[Value.oneCell']) (by omega) (by unfold maxLen;omega) hb ?_;intro A' c' w' own' F' bl');have HC:=sH (SlD.own_dn own');obtain⟨m,hm⟩:∃m,m=l++[out]:=⟨_,rfl⟩;have hml:m.length=l.length+1:=by rw[hm];simp
 have HC2:Hid (SlD w' (Dn base w') 1 (.slice A' (l.length+1) c') (m.map (Value.int .i64))):=by
  have:=HC.out;unfold Hid;rw[hm];simpa using this
 have HR:Hid (lB out l=if m.all aX=true then(out,0) else(0,65)):=by rw[hm];rfl
 clear hm HC own' HO bl';go_loopw [13] (fun s13 wr=>∃k:Nat,k≤m.length∧s13= .int .i64 (k:Int)∧Hid (∀j (hj:j<m.length),j<k→aX m[j]=true)∧Fr none w' wr) (fun s13 _=>m.length - (intOf s13).toNat)
 case atStart=>exact⟨0,Nat.zero_le _,rfl,sH (fun j hj h=>by omega),Fr.refl _ _⟩
 case round=>
  obtain⟨k,hk,rfl,HN,F⟩:=hrel;by_cases hlt:k<m.length
  ·obtain⟨b,off,rfl,hb2,hck⟩:=SlD.cellI HC2.out k hlt;have hck:=F.keep hck;have HB:Hid (aX m[k]=false→lB out l=(0,65)):=fun h=>by
    rw[HR.out,if_neg];intro e;have:=List.all_eq_true.1 e _ (List.getElem_mem hlt);rw[h] at this;cases this
   have HG:Hid (aX m[k]=true→∀j (hj:j<m.length),j<k+1→aX m[j]=true):=fun h j hj hjk=>by
    rcases Nat.lt_or_ge j k with hh|hh
    ·exact HN.out j hj hh
    obtain rfl:j=k:=by omega
    exact h
   clear HN;generalize m[k]=x at*
   go_wp2_with fail;refine(cJ x wr).mono ?_;rintro e w2 ⟨rfl,rfl⟩;generalize aX x=q at*
   cases q with
   |false=>
    have HX:=sH (HB.out rfl);go_wp2_with fail;go_ret2;exact⟨by rw[HX.out];rfl,F'.pure F⟩
   |true=>
    have HX:=sH (HG.out rfl);go_wp2_with fail;go_roundw
    case rel=>exact⟨k+1,by omega,by go_num,HX,F⟩
    case measure=>simp[intOf];omega
  obtain rfl:k=m.length:=by omega
  have HX:Hid (lB out l=(out,0)):=by
   unfold Hid;rw[HR.out,if_pos];rw[List.all_eq_true];intro x hx;obtain⟨j,hj,rfl⟩:=List.getElem_of_mem hx;exact HN.out j hj hj
  go_wp2_with fail;go_ret2;exact⟨by rw[HX.out];rfl,F'.pure F⟩
theorem Co(a b:Int)(w:World)(hs:wrap64 (a+b)=a+b):Calls Tryz.prog 33 #[.int .i64 a,.int .i64 b] w fun e w'=>e= .returned (.tuple #[.int .i64 (lX a b).1,.int .i64 (lX a b).2])∧Fr none w w':=by
 obtain⟨V,hV⟩:∃V,V=lX a b:=⟨_,rfl⟩;rw[←hV];have HV:=sH hV;clear hV;go_enter Tryz.func33,Tryz.ntmps33;go_wp2_with fail;refine(rU (a+b) [a,b] _ _ w.heap.size (by simp only[World.alloc,Array.size_push];omega) (by simp) (World.ownsRow_lit w _ 2 (Nat.le_refl _) (by unfold maxLen;omega) rfl)).mono ?_;rintro e w2 ⟨rfl,F2⟩;have FF:Fr none w w2:=((Fr.refl none w).alloc _).own F2 (fun g hg=>by simp[Value.ownBlock] at hg;omega);unfold lX at HV;rw[←HV.out];obtain⟨x,y⟩:=V;go_wp2_with fail;go_ret2;exact⟨rfl,FF⟩
theorem rV(n d:Int)(w:World):Calls Tryz.prog 91 #[.int .i64 n,.int .i64 d] w fun e w'=>e= .returned (.tuple #[.int .i64 (cI n d).1,.int .i64 (cI n d).2])∧Fr none w w':=by
 obtain⟨P,hP⟩:∃P,P=bX n d:=⟨_,rfl⟩;have hc:=gN n d w;rw[←hP] at hc;cases P with
 |false=>
  have hR:Hid (cI n d=(0,0)):=by unfold Hid cI;rw[←hP];rfl
  clear hP;go_enter Tryz.func91,Tryz.ntmps91;go_wp2_with fail;refine hc.mono ?_;rintro e w1 ⟨rfl,rfl⟩;go_wp2_with fail;go_ret2;exact⟨by rw[hR.out];rfl,Fr.refl _ _⟩
 |true=>
  have hp:1≤n∧n≤1000000∧1≤d∧d≤1000000:=by unfold bX at hP;exact of_decide_eq_true hP.symm
  obtain⟨n,rfl⟩:=Int.eq_ofNat_of_zero_le (a:=n) (by omega);obtain⟨d,rfl⟩:=Int.eq_ofNat_of_zero_le (a:=d) (by omega);have hR:Hid (cI n d=(((n/Nat.gcd n d:Nat):Int),((d/Nat.gcd n d:Nat):Int))):=by unfold Hid cI;rw[←hP];rfl
  clear hP;have h1:1≤n:=by omega
  have h2:n≤1000000:=by omega
  have h3:1≤d:=by omega
  have h4:d≤1000000:=by omega
  clear hp;obtain⟨G,hG⟩:∃G,G=Nat.gcd n d:=⟨_,rfl⟩;rw[←hG] at hR;have HG:=sH hG;clear hG;go_enter Tryz.func91,Tryz.ntmps91;go_wp2_with fail;refine hc.mono ?_;rintro e w1 ⟨rfl,rfl⟩;clear hc;go_wp2_with fail;go_loopw [6,7] (fun s6 s7 wr=>∃a b:Nat,s6= .int .i64 (a:Int)∧s7= .int .i64 (b:Int)∧Hid (Nat.gcd a b=G)∧1≤a∧a≤1000000∧b≤1000000∧Fr none w1 wr) (fun _ s7 _=>(intOf s7).toNat)
  case atStart=>exact⟨n,d,rfl,rfl,HG.out.symm,h1,h2,h4,Fr.refl _ _⟩
  case round=>
   obtain⟨a,b,rfl,rfl,HA,ha,ha2,hb2,F⟩:=hrel;by_cases hb:b=0
   ·subst hb;have ea:a=G:=by have:=HA.out;simpa using this
    subst ea;have q1:Hid (wrap64 ((n:Int)/(a:Int))=((n/a:Nat):Int)):=by
     have:=Nat.div_le_self n a;unfold Hid;rw[←Int.natCast_ediv];generalize n/a=x at this ⊢;unfold wrap64;omega
    have q2:Hid (wrap64 ((d:Int)/(a:Int))=((d/a:Nat):Int)):=by
     have:=Nat.div_le_self d a;unfold Hid;rw[←Int.natCast_ediv];generalize d/a=x at this ⊢;unfold wrap64;omega
    go_wp2_with fail;go_quiet (fail);go_wp2_with fail;go_ret2;exact⟨by rw[hR.out,←q1.out,←q2.out];rfl,F.drewN _⟩
   have q1:(a:Int).tmod (b:Int)=((a%b:Nat):Int):=rfl;have q2:a%b<b:=Nat.mod_lt _ (by omega);have HB:Hid (Nat.gcd b (a%b)=G):=by unfold Hid;rw[←HA.out,Nat.gcd_comm b,←Nat.gcd_rec,Nat.gcd_comm]
   clear HA;go_wp2_with fail;go_quiet (fail);go_wp2_with fail;go_roundw
   case rel=>exact⟨b,a%b,rfl,by go_num,HB,by omega,hb2,by omega,F.drewN _⟩
   case measure=>simp[intOf];omega
theorem yW{a b:Int}(h1:1≤a)(h2:a≤1000000)(h3:1≤b)(h4:b≤1000000):1≤a*b∧a*b≤1000000000000:=by
 have q1:=Int.mul_le_mul h1 h3 (by omega) (by omega);have q2:=Int.mul_le_mul h2 h4 (by omega) (by omega);omega
theorem yX{a b:Int}(h1:0≤a)(h2:a≤1000000000000)(h3:1≤b)(h4:b≤1000000):0≤a*b∧a*b≤1000000000000000000:=by
 have q1:=Int.mul_nonneg h1 (show 0≤b by omega);have q2:=Int.mul_le_mul h2 h4 (by omega) (by omega);omega
theorem AD(an ad bn bd:Int)(w:World):Calls Tryz.prog 232 #[.int .i64 an,.int .i64 ad,.int .i64 bn,.int .i64 bd] w fun e w'=>e= .returned (.int .i64 (vQ an ad bn bd))∧w=w':=by
 obtain⟨V,hV⟩:∃V,V=vQ an ad bn bd:=⟨_,rfl⟩;rw[←hV];unfold vQ at hV;have ha:=@lL an ad;have hb:=@lL bn bd;go_enter Tryz.func232,Tryz.ntmps232;have c1:=gN an ad w;have c2:=gN bn bd w;generalize bX an ad=x at*
 generalize bX bn bd=y at*
 cases x with
 |false=>
  have HX:Hid (V=0):=by unfold Hid;rw[hV];rfl
  clear hV ha hb;go_wp2_with fail;refine c1.mono ?_;rintro e w1 ⟨rfl,rfl⟩;go_wp2;go_ret;exact⟨aM HX.out.symm,rfl⟩
 |true=>
  cases y with
  |false=>
   have HX:Hid (V=0):=by unfold Hid;rw[hV];rfl
   clear hV ha hb;go_wp2_with fail;refine c1.mono ?_;rintro e w1 ⟨rfl,rfl⟩;go_wp2_with fail;refine c2.mono ?_;rintro e w1 ⟨rfl,rfl⟩;go_wp2;go_ret;exact⟨aM HX.out.symm,rfl⟩
  |true=>
   have HX:Hid (V=fT (an*bd) (bn*ad)):=hV;obtain⟨a1,a2,a3,a4⟩:=ha.1 rfl;obtain⟨b1,b2,b3,b4⟩:=hb.1 rfl;have m1:=yW a1 a2 b3 b4;have m2:=yW b1 b2 a3 a4;have w1:wrap64 (an*bd)=an*bd:=fV (by omega) (by omega);have w2:wrap64 (bn*ad)=bn*ad:=fV (by omega) (by omega);clear hV ha hb a1 a2 a3 a4 b1 b2 b3 b4 m1 m2;go_wp2_with fail;refine c1.mono ?_;rintro e w3 ⟨rfl,rfl⟩;go_wp2_with fail;refine c2.mono ?_;rintro e w3 ⟨rfl,rfl⟩;go_wp2_with fail;refine(dC (an*bd) (bn*ad) w3).mono ?_;rintro e w4 ⟨rfl,rfl⟩;go_wp2;go_ret;exact⟨aM HX.out.symm,rfl⟩
theorem Cp(n num den more:Int)(w:World)(hm:0≤more)(hm2:more≤1000000000000):Calls Tryz.prog 248 #[.int .i64 n,.int .i64 num,.int .i64 den,.int .i64 more] w fun e w'=>e= .returned (.tuple #[.int .i64 (An n num den more).1,.int .i64 (An n num den more).2])∧Fr none w w':=by
 obtain⟨V,hV⟩:∃V,V=An n num den more:=⟨_,rfl⟩;rw[←hV];unfold An at hV;have ha:=@fC n;have hb:=@lL num den;go_enter Tryz.func248,Tryz.ntmps248;have c1:=cJ n w;have c2:=gN num den w;generalize aX n=x at*
 generalize bX num den=y at*
 cases x with
 |false=>
  have HX:Hid (V=(0,65)):=by unfold Hid;rw[hV];rfl
  clear hV ha hb;go_wp2_with fail;refine c1.mono ?_;rintro e w1 ⟨rfl,rfl⟩;go_wp2_with fail;go_ret2;exact⟨by rw[HX.out];rfl,Fr.refl _ _⟩
 |true=>
  cases y with
  |false=>
   have HX:Hid (V=(0,65)):=by unfold Hid;rw[hV];rfl
   clear hV ha hb;go_wp2_with fail;refine c1.mono ?_;rintro e w1 ⟨rfl,rfl⟩;go_wp2_with fail;refine c2.mono ?_;rintro e w1 ⟨rfl,rfl⟩;go_wp2_with fail;go_ret2;exact⟨by rw[HX.out];rfl,Fr.refl _ _⟩
  |true=>
   have HX:Hid (V=lB ((n*num+more)/den) []):=hV;obtain⟨a1,a2⟩:=ha.1 rfl;obtain⟨b1,b2,b3,b4⟩:=hb.1 rfl;have m1:=yX a1 a2 b1 b2;have q1:wrap64 (n*num)=n*num:=fV (by omega) (by omega);have q2:wrap64 (n*num+more)=n*num+more:=fV (by omega) (by omega);have q3:Int.tdiv (n*num+more) den=(n*num+more)/den:=Int.tdiv_eq_ediv_of_nonneg (by omega);have q4:wrap64 ((n*num+more)/den)=(n*num+more)/den:=by
    have h1:0≤(n*num+more)/den:=Int.ediv_nonneg (by omega) (by omega);have h2:(n*num+more)/den≤n*num+more:=Int.ediv_le_self _ (by omega);exact fV (by omega) (by omega)
   have q5:(den == 0)=false:=by rw[beq_eq_false_iff_ne];omega
   clear hV ha hb a1 a2 b1 b2 m1;go_wp2_with fail;refine c1.mono ?_;rintro e w3 ⟨rfl,rfl⟩;go_wp2_with fail;refine c2.mono ?_;rintro e w3 ⟨rfl,rfl⟩;go_wp2_with fail;refine(rU ((n*num+more)/den) [] _ w3 0 (Nat.zero_le _) (by simp) (World.ownsRow_nil w3 0 _ 1)).mono ?_;rintro e w4 ⟨rfl,F4⟩;rw[←HX.out];obtain⟨u,z⟩:=V;go_wp2_with fail;go_ret2;exact⟨rfl,F4⟩
theorem Ev(n num den:Int)(w:World)(hd:1≤den)(hd2:den≤1000000):Calls Tryz.prog 234 #[.int .i64 n,.int .i64 num,.int .i64 den] w fun e w'=>e= .returned (.tuple #[.int .i64 (upN n num den).1,.int .i64 (upN n num den).2])∧Fr none w w':=by
 obtain⟨V,hV⟩:∃V,V=upN n num den:=⟨_,rfl⟩;rw[←hV];have HV:=sH hV;unfold upN at HV;clear hV;have q1:wrap64 (den - 1)=den - 1:=fV (by omega) (by omega);go_enter Tryz.func234,Tryz.ntmps234;go_wp2_with fail;refine(Cp n num den (den - 1) w (by omega) (by omega)).mono ?_;rintro e w4 ⟨rfl,F4⟩;rw[←HV.out];obtain⟨u,z⟩:=V;go_wp2_with fail;go_ret2;exact⟨rfl,F4⟩
def NwE{α:Type}(R:Rec α)(r:List α × Int)(w:World)(e:Ending)(w':World):Prop:=∃v,e= .returned (.tuple #[v,.int .i64 r.2])∧SlD w' (Dn w.heap.size w') R.sz v (flR R r.1)∧Fr none w w'
theorem fO{α:Type}{p:α→Bool}{l:List α}:(l.findIdx? p=none∧dG p l= -1)∨∃k,∃_:k<l.length,l.findIdx? p=some k∧dG p l=(k:Int):=by
 unfold dG;cases h:l.findIdx? p with
 |none=>exact .inl ⟨rfl,rfl⟩
 |some k=>
  obtain⟨hk,_⟩:=List.findIdx?_eq_some_iff_getElem.1 h;exact .inr ⟨k,hk,rfl,rfl⟩
theorem vX(fn:aQ→aQ × Int)(f:FuncId)(caps:Array Value)(hrun:∀args w,Sem.run Tryz.prog (callFunc f args) w= .ok (.enter f args) w)(l:List aQ)(v:Value)(id:Int)(w:World)(h:SlR aP w none v l)
  (hf:∀(W:World) (b c k:Nat) (m:List aQ) (hk:k<m.length),Fr none w W→(∀x ∈ m,aP.ok x∧aX x.bal=true∧0≤x.seq∧x.seq≤1000000)→W.ownsRow w.heap.size 59 3 (.slice (some ⟨b,0,none⟩) m.length c) m.length (flR aP m)→
   Calls Tryz.prog f (#[.pointer (some ⟨b,k*3,none⟩)]++caps) W fun e W'=>e= .returned (.int .i64 (fn m[k]).2)∧Fr (some b) W W'∧((fn m[k]).2=0→W'.ownsRow w.heap.size 59 3 (.slice (some ⟨b,0,none⟩) m.length c) m.length (flR aP (m.set k (fn m[k]).1)))):
  Calls Tryz.prog 63 #[v,.int .i64 id,.func (.func f) #[] caps] w (NwE aP (eW fn l id) w):=by
 have HF:=sH hf;clear hf;obtain⟨A,c,hv,q1,q2,_⟩:=h.open_;subst hv;have HS:=sH h;have hc:=vU l _ w h;clear h;obtain⟨z,hz⟩:∃z,z=cC l:=⟨_,rfl⟩;rw[←hz] at hc;obtain⟨V,hV⟩:∃V,V=eW fn l id:=⟨_,rfl⟩;rw[←hV];by_cases h0:z=0
 ·subst h0;have hch:=hz.symm;have hlen:l.length≤20:=by
   unfold cC at hch;split at hch
   ·cases hch
   omega
  have HOK:Hid (∀x ∈ l,aP.ok x∧aX x.bal=true∧0≤x.seq∧x.seq≤1000000):=fun x hx=>by
   refine⟨HS.out.2 x hx,?_⟩;unfold cC at hch;split at hch
   ·cases hch
   split at hch
   ·rename_i h2;obtain⟨j,hj,rfl⟩:=List.getElem_of_mem hx;have:=(dU _ _ _).1 h2 j hj;unfold iX nP at this;simp only[Bool.and_eq_true,decide_eq_true_eq] at this;exact⟨this.1.2.1,this.1.2.2⟩
   cases hch
  have hV2:V=match l.findIdx? (isA id) with|none=>([],67)|some k=>match l[k]? with|none=>([],67)|some x=>if(fn x).2≠0 then([],(fn x).2) else(l.set k (fn x).1,0):=by
   rw[hV];unfold eW;rw[if_neg (by rw[hch];simp)];rfl
  clear hV hz hch;have e0:rgt 0=0:=rfl;rw[e0] at hc;clear e0;rcases fO (p:=isA id) (l:=l) with⟨hi,hp⟩|⟨k,hk,hi,hp⟩
  ·have HX:Hid (V=([],67)):=by unfold Hid;rw[hV2,hi]
   clear hV2 hi;go_enter Tryz.func63,Tryz.ntmps63;go_wp2_with fail;refine hc.mono ?_;rintro e w1 ⟨rfl,F1⟩;go_wp2_with fail;refine(mD l _ id w1 (HS.out.fr F1)).mono ?_;rintro e w2 ⟨rfl,F2⟩;unfold tL;rw[hp];go_wp2_with fail;go_ret2;exact⟨.slice none 0 0,by rw[HX.out];rfl,by rw[HX.out];exact SlD.nil _ _ _,F1.pure F2⟩
  have hV3:V=if(fn l[k]).2≠0 then([],(fn l[k]).2) else(l.set k (fn l[k]).1,0):=by
   rw[hV2,hi];simp only[List.getElem?_eq_getElem hk]
  have HV:=sH hV3;clear hV2 hV3 hi;go_enter Tryz.func63,Tryz.ntmps63;go_wp2_with fail;refine hc.mono ?_;rintro e w1 ⟨rfl,F1⟩;go_wp2_with fail;refine(mD l _ id w1 (HS.out.fr F1)).mono ?_;rintro e w2 ⟨rfl,F2⟩;unfold tL;rw[hp];have F:=F1.pure F2;go_wp2_with fail;refine(mV l _ w2 (HS.out.fr F) (by omega)).mono ?_;rintro e w3 ⟨A3,c3,rfl,own3,F3⟩;have F:=F.pure F3;obtain⟨rb,rfl⟩:=dZ own3 (by omega);have own3:=jB own3 (by have:=F1.size;have:=F2.size;omega:w.heap.size≤w2.heap.size);have hcl:=HF.out w3 rb c3 k l hk F HOK.out own3;have hrb:=(aY own3).2.2.2.1;clear HF F1 F2 F3 hp;have HOWN:=sH own3;clear own3;obtain⟨y,hy⟩:∃y,y=fn l[k]:=⟨_,rfl⟩;rw[←hy] at hcl HV;go_wp2_with fail;refine hcl.mono ?_;rintro e w4 ⟨rfl,F4,H4⟩;have HW:=sH H4;clear hcl hy H4;have FF:=F.new F4 hrb;by_cases he:y.2=0
  ·have q:(y.2 !=0)=false:=by simp[he]
   have HX:Hid (V=(l.set k y.1,0)):=by unfold Hid;rw[HV.out,if_neg (by rw[he];simp)]
   have own4:=HW.out he;clear HW;rw[he] at q ⊢;go_wp2_with fail;go_ret2;refine⟨.slice (some ⟨rb,0,none⟩) l.length c3,by rw[HX.out];rfl,?_,FF⟩;rw[HX.out];exact SlD.own_dn own4
  have q:(y.2 !=0)=true:=by simp[he]
  have HX:Hid (V=([],y.2)):=by unfold Hid;rw[HV.out,if_pos he]
  clear HW;go_wp2_with fail;go_ret2;exact⟨.slice none 0 0,by rw[HX.out];rfl,by rw[HX.out];exact SlD.nil _ _ _,FF⟩
 have HX:Hid (V=([],74)):=by unfold Hid;rw[hV];unfold eW;rw[←hz,if_pos h0]
 have e0:rgt z=74:=by unfold rgt;rw[if_neg h0]
 rw[e0] at hc;clear e0 hV hz h0;go_enter Tryz.func63,Tryz.ntmps63;go_wp2_with fail;refine hc.mono ?_;rintro e w1 ⟨rfl,F1⟩;go_wp2_with fail;go_ret2;exact⟨.slice none 0 0,by rw[HX.out];rfl,by rw[HX.out];exact SlD.nil _ _ _,F1⟩
theorem gX{w:World}{base b c k:Nat}{m:List aQ}(h:w.ownsRow base 59 3 (.slice (some ⟨b,0,none⟩) m.length c) m.length (flR aP m))(hk:k<m.length):
  w.cell? ⟨b,k*3,none⟩=some (.int .i64 m[k].id)∧w.cell? ⟨b,k*3+1,none⟩=some (.int .i64 m[k].bal)∧w.cell? ⟨b,k*3+2,none⟩=some (.int .i64 m[k].seq)∧(∀i,w.frozen? ⟨b,i,none⟩=false)∧b<w.heap.size∧base≤b:=by
 obtain⟨h1,h2,h3,h4,_⟩:=aY h;exact⟨h2 _ _ ((bU aP m k hk 0 (by decide)).trans rfl),h2 _ _ ((bU aP m k hk 1 (by decide)).trans rfl),h2 _ _ ((bU aP m k hk 2 (by decide)).trans rfl),h1,h3,h4⟩
theorem oG{w:World}{base b c k:Nat}{m:List aQ}(h:w.ownsRow base 59 3 (.slice (some ⟨b,0,none⟩) m.length c) m.length (flR aP m))(hk:k<m.length)(j:Nat)(hj:j<3)(u:Value)(y:aQ)(hy:(aP.enc m[k]).set j u=aP.enc y):
  (w.setCell ⟨b,k*3+j,none⟩ u).ownsRow base 59 3 (.slice (some ⟨b,0,none⟩) m.length c) m.length (flR aP (m.set k y)):=by
 have:=jU h (k*3+j) u
 rwa [show k*3+j=k*aP.sz+j from rfl,lR aP u y j hj m k hk hy] at this
theorem xS(n:Int)(bx:Nat)(w0 W:World)(b c k:Nat)(m:List aQ)(hk:k<m.length)(hx:W.cell? ⟨bx,0,none⟩=some (.int .i64 n))(hbx:bx≠b)(hok:∀x ∈ m,aP.ok x∧aX x.bal=true∧0≤x.seq∧x.seq≤1000000)(own:W.ownsRow w0.heap.size 59 3 (.slice (some ⟨b,0,none⟩) m.length c) m.length (flR aP m)):
  Calls Tryz.prog 141 #[.pointer (some ⟨b,k*3,none⟩),.pointer (some ⟨bx,0,none⟩)] W fun e W'=>e= .returned (.int .i64 (eD n m[k]).2)∧Fr (some b) W W'∧((eD n m[k]).2=0→W'.ownsRow w0.heap.size 59 3 (.slice (some ⟨b,0,none⟩) m.length c) m.length (flR aP (m.set k (eD n m[k]).1))):=by
 obtain⟨c0,c1,c2,hz,hb,_⟩:=gX own hk;have HO:=sH own;have HA:Hid (∀W',Fr none W W'→∀(u:Value) (y:aQ),(aP.enc m[k]).set 1 u=aP.enc y→(W'.setCell ⟨b,k*3+1,none⟩ u).ownsRow w0.heap.size 59 3 (.slice (some ⟨b,0,none⟩) m.length c) m.length (flR aP (m.set k y))):=fun W' F u y hy=>oG (aR own F (by simp)) hk 1 (by decide) u y hy;have hx0:=(hok _ (List.getElem_mem hk)).2.1;clear own hok;obtain⟨V,hV⟩:∃V,V=eD n m[k]:=⟨_,rfl⟩;rw[←hV];unfold eD at hV;generalize m[k]=x at*
 have hcall:=cJ n W;generalize hvn:aX n=vn at*
 cases vn with
 |false=>
  have HX:Hid (V=(x,65)):=by unfold Hid;rw[hV,if_pos rfl]
  clear hV;go_enter Tryz.func141,Tryz.ntmps141;go_wp2_with fail;refine hcall.mono ?_;rintro e w1 ⟨rfl,rfl⟩;go_wp2;go_ret;exact⟨by rw[HX.out];rfl,Fr.refl _ _,fun h=>by rw[HX.out] at h;cases h⟩
 |true=>
  obtain⟨n1,n2⟩:=fC.1 hvn;obtain⟨x1,x2⟩:=fC.1 hx0;by_cases hn:x.bal<n
  ·have HX:Hid (V=(x,66)):=by unfold Hid;rw[hV,if_neg (by simp),if_pos hn]
   have hd:decide (x.bal<n)=true:=decide_eq_true hn;clear hV hn;go_enter Tryz.func141,Tryz.ntmps141;go_wp2_with fail;refine hcall.mono ?_;rintro e w1 ⟨rfl,rfl⟩;go_wp2_with fail;go_quiet (fail);go_wp2;go_ret;exact⟨by rw[HX.out];rfl,(Fr.refl _ _).drewN _,fun h=>by rw[HX.out] at h;cases h⟩
  have HX:Hid (V=({x with bal:=x.bal - n},0)):=by unfold Hid;rw[hV,if_neg (by simp),if_neg hn]
  have hd:decide (x.bal<n)=false:=decide_eq_false hn;have hw:wrap64 (x.bal - n)=x.bal - n:=fV (by omega) (by omega);clear hV hn;go_enter Tryz.func141,Tryz.ntmps141;go_wp2_with fail;refine hcall.mono ?_;rintro e w1 ⟨rfl,rfl⟩;go_wp2_with fail;go_quiet (fail);go_wp2_with fail
  go_region
  go_wp2;go_ret;have FN:Fr none w1 (w1.drewN (nq+1)):=(Fr.refl none w1).drewN _;exact⟨by rw[HX.out];rfl,FN.mono.setRow (p:=⟨b,k*3+1,none⟩) rfl _,fun _=>by rw[HX.out];exact HA.out _ FN _ _ rfl⟩
theorem qI:∀args w,Sem.run Tryz.prog (callFunc 141 args) w= .ok (.enter 141 args) w:=fun _ _=>by kernel_rfl
theorem AG(l:List aQ)(v:Value)(id n:Int)(w:World)(h:SlR aP w none v l):Calls Tryz.prog 109 #[v,.int .i64 id,.int .i64 n] w (NwE aP (eW (eD n) l id) w):=by
 obtain⟨V,hV⟩:∃V,V=eW (eD n) l id:=⟨_,rfl⟩;have HV:=sH hV;rw[←hV];clear hV;obtain⟨A,c,hv,q1,q2,_⟩:=h.open_;subst hv;have HS:=sH h;clear h;go_enter Tryz.func109,Tryz.ntmps109;go_upto_region 1 with(fail)
 generalize hW:w.alloc _=w1;have F1:Fr none w w1:=hW▸(Fr.refl none w).alloc _;have HC:Hid (w1.cell? ⟨w.heap.size,0,none⟩=some (.int .i64 n)):=by unfold Hid;rw[←hW,dS];rfl
 have s1:w.heap.size+1=w1.heap.size:=by rw[←hW];exact(Array.size_push _).symm
 clear hW;go_wp2_with fail;refine(vX (eD n) 141 #[.pointer (some ⟨w.heap.size,0,none⟩)] qI l _ id w1 (HS.out.fr F1) (fun W b c k m hk FW hok own=>xS n w.heap.size w1 W b c k m hk (FW.keep HC.out) (by have:=(gX own hk).2.2.2.2.2;omega) hok own)).mono ?_;rintro e w2 ⟨v2,rfl,S2,F2⟩;rw[←HV.out] at S2 ⊢;go_wp2_with fail;go_ret2;exact⟨v2,rfl,S2.keep (dH (by omega)),F1.pure F2⟩
theorem CZ{w:World}{base b c k:Nat}{m:List aQ}(h:w.ownsRow base 59 3 (.slice (some ⟨b,0,none⟩) m.length c) m.length (flR aP m))(hk:k<m.length)(u v:Int):
  ((w.setCell ⟨b,k*3+2,none⟩ (.int .i64 u)).setCell ⟨b,k*3+1,none⟩ (.int .i64 v)).ownsRow base 59 3 (.slice (some ⟨b,0,none⟩) m.length c) m.length (flR aP (m.set k {m[k] with seq:=u,bal:=v})):=by
 have h1:=oG h hk 2 (by decide) (.int .i64 u) {m[k] with seq:=u} rfl;have h2:=oG (m:=m.set k {m[k] with seq:=u}) (by simpa using h1) (k:=k) (by simpa using hk) 1 (by decide) (.int .i64 v) {m[k] with seq:=u,bal:=v} (by simp only[List.getElem_set_self];rfl);rw[List.set_set] at h2;simpa using h2
theorem EK{p:Prop}(h:p:=by
 go_enter Tryz.func64,Tryz.ntmps64;go_wp2_with fail;go_quiet (fail);go_wp2;go_ret;exact⟨by rw[HX.out];rfl,((Fr.refl _ _).drewN _),fun h=>by rw[HX.out] at h;cases h⟩):p:=h
theorem AX(seq fee:Int)(b1 b2:Nat)(w0 W:World)(b c k:Nat)(m:List aQ)(hk:k<m.length)(hx1:W.cell? ⟨b1,0,none⟩=some (.int .i64 seq))(hx2:W.cell? ⟨b2,0,none⟩=some (.int .i64 fee))(hb1:b1≠b)(hb2:b2≠b)(hok:∀x ∈ m,aP.ok x∧aX x.bal=true∧0≤x.seq∧x.seq≤1000000)(own:W.ownsRow w0.heap.size 59 3 (.slice (some ⟨b,0,none⟩) m.length c) m.length (flR aP m)):
  Calls Tryz.prog 64 #[.pointer (some ⟨b,k*3,none⟩),.pointer (some ⟨b1,0,none⟩),.pointer (some ⟨b2,0,none⟩)] W fun e W'=>e= .returned (.int .i64 (fU seq fee m[k]).2)∧Fr (some b) W W'∧((fU seq fee m[k]).2=0→W'.ownsRow w0.heap.size 59 3 (.slice (some ⟨b,0,none⟩) m.length c) m.length (flR aP (m.set k (fU seq fee m[k]).1))):=by
 obtain⟨c0,c1,c2,hz,hb,_⟩:=gX own hk;have HA:Hid (∀W',Fr none W W'→∀(u v:Int),((W'.setCell ⟨b,k*3+2,none⟩ (.int .i64 u)).setCell ⟨b,k*3+1,none⟩ (.int .i64 v)).ownsRow w0.heap.size 59 3 (.slice (some ⟨b,0,none⟩) m.length c) m.length (flR aP (m.set k {m[k] with seq:=u,bal:=v}))):=fun W' F u v=>CZ (aR own F (by simp)) hk u v;obtain⟨_,hx0,hs1,hs2⟩:=hok _ (List.getElem_mem hk);clear own hok;obtain⟨V,hV⟩:∃V,V=fU seq fee m[k]:=⟨_,rfl⟩;rw[←hV];unfold fU at hV;generalize m[k]=x at*
 obtain⟨x1,x2⟩:=fC.1 hx0;have hw:wrap64 (x.seq+1)=x.seq+1:=fV (by omega) (by omega);by_cases h1:seq=x.seq+1
 ·have d1:(seq !=x.seq+1)=false:=by simp[h1]
  by_cases h2:1000000<seq
  ·have HX:Hid (V=(x,68)):=by unfold Hid;rw[hV,if_pos (.inr h2)]
   have d2:decide (1000000<seq)=true:=decide_eq_true h2;clear hV h1 h2;exact EK
  have hV:=hV.trans (if_neg (by omega));have d2:decide (1000000<seq)=false:=decide_eq_false h2;clear h1 h2;by_cases h3:fee<1∨100000<fee
  ·have HX:Hid (V=(x,69)):=by unfold Hid;rw[hV,if_pos h3]
   clear hV;by_cases h4:fee<1
   ·have d3:decide (fee<1)=true:=decide_eq_true h4;clear h3 h4;exact EK
   have d3:decide (fee<1)=false:=decide_eq_false h4;have d4:decide (100000<fee)=true:=decide_eq_true (by omega);clear h3 h4;exact EK
  have hV:=hV.trans (if_neg h3);have f1:1≤fee:=by omega
  have f2:fee≤100000:=by omega
  have d3:decide (fee<1)=false:=decide_eq_false (by omega);have d4:decide (100000<fee)=false:=decide_eq_false (by omega);clear h3;by_cases h5:x.bal<fee
  ·have HX:Hid (V=(x,66)):=by unfold Hid;rw[hV,if_pos h5]
   have d5:decide (x.bal<fee)=true:=decide_eq_true h5;clear hV h5;go_enter Tryz.func64,Tryz.ntmps64;go_wp2_with fail;go_quiet (fail);go_wp2_with fail;go_quiet (fail);go_wp2;go_ret;exact⟨by rw[HX.out];rfl,(((Fr.refl _ _).drewN _).drewN _),fun h=>by rw[HX.out] at h;cases h⟩
  have HX:Hid (V=({x with seq:=seq,bal:=x.bal - fee},0)):=by unfold Hid;rw[hV,if_neg h5]
  have d5:decide (x.bal<fee)=false:=decide_eq_false h5;have hw2:wrap64 (x.bal - fee)=x.bal - fee:=fV (by omega) (by omega);clear hV h5;go_enter Tryz.func64,Tryz.ntmps64;go_wp2_with fail;go_quiet (fail);go_wp2_with fail;go_quiet (fail);go_wp2_with fail
  go_region
  generalize hN:W.drewN _=WN;have FN:Fr none W WN:=hN▸(Fr.refl none W).drewN _;go_wp2;go_ret;exact⟨by rw[HX.out];rfl,(FN.mono.setRow (p:=⟨b,k*3+2,none⟩) rfl _).setRow (p:=⟨b,k*3+1,none⟩) rfl _,fun _=>by rw[HX.out];exact HA.out _ FN _ _⟩
 have d1:(seq !=x.seq+1)=true:=by simp[h1]
 have HX:Hid (V=(x,68)):=by unfold Hid;rw[hV,if_pos (.inl h1)]
 clear hV h1;exact EK
theorem tZ:∀args w,Sem.run Tryz.prog (callFunc 64 args) w= .ok (.enter 64 args) w:=fun _ _=>by kernel_rfl
theorem Da(l:List aQ)(v:Value)(id seq fee:Int)(w:World)(h:SlR aP w none v l):Calls Tryz.prog 32 #[v,.int .i64 id,.int .i64 seq,.int .i64 fee] w (NwE aP (eW (fU seq fee) l id) w):=by
 obtain⟨V,hV⟩:∃V,V=eW (fU seq fee) l id:=⟨_,rfl⟩;have HV:=sH hV;rw[←hV];clear hV;obtain⟨A,c,hv,q1,q2,_⟩:=h.open_;subst hv;have HS:=sH h;clear h;go_enter Tryz.func32,Tryz.ntmps32;go_upto_region 1 with(fail)
 generalize hW:w.alloc _=w1;have F1:Fr none w w1:=hW▸(Fr.refl none w).alloc _;have HC:Hid (w1.cell? ⟨w.heap.size,0,none⟩=some (.int .i64 seq)):=by unfold Hid;rw[←hW,dS];rfl
 have s1:w.heap.size+1=w1.heap.size:=by rw[←hW];exact(Array.size_push _).symm
 clear hW;generalize hW:w1.alloc _=w2;have F2:Fr none w1 w2:=hW▸(Fr.refl none w1).alloc _;have HC2:Hid (w2.cell? ⟨w.heap.size+1,0,none⟩=some (.int .i64 fee)):=by unfold Hid;rw[←hW,s1,dS];rfl
 have s2:w.heap.size+2=w2.heap.size:=by rw[←hW];simp only[World.alloc,Array.size_push];omega
 clear hW;have HC:Hid (w2.cell? ⟨w.heap.size,0,none⟩=some (.int .i64 seq)):=F2.keep HC.out;have FF:=F1.pure F2;have HB:Hid (∀(W:World) (b c k:Nat) (m:List aQ) (hk:k<m.length),Fr none w2 W→(∀x ∈ m,aP.ok x∧aX x.bal=true∧0≤x.seq∧x.seq≤1000000)→W.ownsRow w2.heap.size 59 3 (.slice (some ⟨b,0,none⟩) m.length c) m.length (flR aP m)→Calls Tryz.prog 64 (#[.pointer (some ⟨b,k*3,none⟩)]++#[.pointer (some ⟨w.heap.size,0,none⟩),.pointer (some ⟨w.heap.size+1,0,none⟩)]) W fun e W'=>e= .returned (.int .i64 (fU seq fee m[k]).2)∧Fr (some b) W W'∧((fU seq fee m[k]).2=0→W'.ownsRow w2.heap.size 59 3 (.slice (some ⟨b,0,none⟩) m.length c) m.length (flR aP (m.set k (fU seq fee m[k]).1)))):=fun W b c k m hk FW hok own=>by
  have hge:=(gX own hk).2.2.2.2.2;have e:(#[Value.pointer (some ⟨b,k*3,none⟩)]++#[Value.pointer (some ⟨w.heap.size,0,none⟩),Value.pointer (some ⟨w.heap.size+1,0,none⟩)])=#[.pointer (some ⟨b,k*3,none⟩),.pointer (some ⟨w.heap.size,0,none⟩),.pointer (some ⟨w.heap.size+1,0,none⟩)]:=by simp only[List.append_toArray,List.cons_append,List.nil_append]
  rw[e];exact AX seq fee w.heap.size (w.heap.size+1) w2 W b c k m hk (FW.keep HC.out) (FW.keep HC2.out) (by omega) (by omega) hok own
 have HZ:=sH s2;clear s1 s2 HC HC2 F1 F2;go_wp2_with fail;refine(vX (fU seq fee) 64 #[.pointer (some ⟨w.heap.size,0,none⟩),.pointer (some ⟨w.heap.size+1,0,none⟩)] tZ l _ id w2 (HS.out.fr FF) HB.out).mono ?_;rintro e w3 ⟨v2,rfl,S2,F3⟩;rw[←HV.out] at S2 ⊢;go_wp2_with fail;go_ret2;exact⟨v2,rfl,S2.keep (dH (by have:=HZ.out;omega)),FF.pure F3⟩
end Go.Proofs.YthaggndnfamhjaaGreatDoor
