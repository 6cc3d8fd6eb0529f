/- Texts, joined. -/
import Derived.Test.YthaggndnfamhjaaGreatDoorProg
import Derived.Test.YthaggndnfamhjaaGreatDoorJK13
import Derived.Test.YthaggndnfamhjaaGreatDoorJK15
import Derived.Test.YthaggndnfamhjaaGreatDoorJK28
import Derived.Test.YthaggndnfamhjaaGreatDoorJA

set_option linter.unusedSimpArgs false
set_option linter.unusedVariables false
set_option maxRecDepth 100000
set_option maxHeartbeats 16000000
namespace Go.Proofs.YthaggndnfamhjaaGreatDoor
open Go.RowKit
theorem bB{ys:Nat→Value}{i k:Nat}{v:Value}(h:k≠i):cX ys i v k=ys k:=by unfold cX;rw[if_neg h]
theorem eI{ys:Nat→Value}{i:Nat}{v:Value}:cX ys i v i=v:=by unfold cX;rw[if_pos rfl]
def Dj(a b:Value):Prop:=∀x,a.ownBlock=some x→b.ownBlock≠some x
theorem Dj.symm{a b:Value}(h:Dj a b):Dj b a:=fun x hb ha=>h x ha hb
theorem bR{w:World}{base:Nat}{e:TypeId}{size n:Nat}{v:Value}{xs:List Value}(h:w.ownsRow base e size v n xs){x:Nat}(hx:v.ownBlock=some x):base≤x∧x<w.heap.size:=by
 rcases h.2 with⟨h1,_⟩|⟨g,cap,cur,e1,hg,hh,_⟩
 ·rw[h1] at hx;cases hx
 rw[e1] at hx;injection hx with hx
 have hx:g=x:=hx;subst hx;exact⟨hg,aC hh⟩
theorem Dj.of{w w':World}{b1 b2:Nat}{e1 e2:TypeId}{s1 s2 n1 n2:Nat}{v1 v2:Value}{x1 x2:List Value}(h1:w.ownsRow b1 e1 s1 v1 n1 x1)(h2:w'.ownsRow b2 e2 s2 v2 n2 x2)(h:w.heap.size≤b2):Dj v1 v2:=fun x hx hy=>by
 have:=bR h1 hx;have:=bR h2 hy;omega
structure OwG (w:World) (base:Nat) (g:Lgr) (va vl vo:Value):Prop where
 a:w.ownsRow base 59 3 va g.accs.length (flR aP g.accs)
 l:w.ownsRow base 74 5 vl g.lines.length (flR lnR g.lines)
 o:w.ownsRow base 67 9 vo g.offers.length (flR ofR g.offers)
 al:Dj va vl
 ao:Dj va vo
 lo:Dj vl vo
theorem OwG.fr{w w':World}{base:Nat}{g:Lgr}{va vl vo:Value}{r:Option Nat}(h:OwG w base g va vl vo)(f:Fr r w w')(hr:∀x,r=some x→x<base:=by simp):OwG w' base g va vl vo:=⟨aR h.a f hr,aR h.l f hr,aR h.o f hr,h.al,h.ao,h.lo⟩
theorem OwG.base{w:World}{b b':Nat}{g:Lgr}{va vl vo:Value}(h:OwG w b g va vl vo)(hb:b'≤b):OwG w b' g va vl vo:=⟨jB h.a hb,jB h.l hb,jB h.o hb,h.al,h.ao,h.lo⟩
def iI:List (Nat × Nat):=[(0,1),(3,2),(6,3),(9,1),(11,2),(13,3)]
structure JC (w1:World) (bx:Nat) (g:Lgr) (va vl vo:Value) (L:Nat→Prop) (ys:Nat→Value) (W:World):Prop where
 fr:Fr (some bx) w1 W
 box:∃c1 c2 c3,LgB W bx g c1 c2 c3∧(L 10→c1=ys 2)∧(¬L 10→c1=va)∧(L 12→c2=ys 5)∧(¬L 12→c2=vl)∧(L 14→c3=ys 8)∧(¬L 14→c3=vo)
 ptr:∀k c,(k,c) ∈ iI→L k→ys k= .pointer (some ⟨bx,c,none⟩)
 ld:(L 1→ys 1=va)∧(L 4→ys 4=vl)∧(L 7→ys 7=vo)
 rA:L 2→W.ownsRow w1.heap.size 59 3 (ys 2) g.accs.length (flR aP g.accs)
 rL:L 5→W.ownsRow w1.heap.size 74 5 (ys 5) g.lines.length (flR lnR g.lines)
 rF:L 8→W.ownsRow w1.heap.size 67 9 (ys 8) g.offers.length (flR ofR g.offers)
 dj:(L 2→L 5→Dj (ys 2) (ys 5))∧(L 2→L 8→Dj (ys 2) (ys 8))∧(L 5→L 8→Dj (ys 5) (ys 8))
theorem JC.lt{w1:World}{bx:Nat}{g:Lgr}{va vl vo:Value}{L:Nat→Prop}{ys:Nat→Value}{W:World}(h:JC w1 bx g va vl vo L ys W):bx<W.heap.size:=by
 obtain⟨_,_,_,h,_⟩:=h.box;exact aC h
theorem JC.next{w1:World}{bx:Nat}{g:Lgr}{va vl vo:Value}{L:Nat→Prop}{ys:Nat→Value}{W W':World}(h:JC w1 bx g va vl vo L ys W)(hb:bx<w1.heap.size)(F:Fr none W W'){i:Nat}{v:Value}(hL:¬L i)(hdep10:L 10→L 2)(hdep12:L 12→L 5)(hdep14:L 14→L 8)(hs:i≠10∧i≠12∧i≠14)
  (hp:∀c,(i,c) ∈ iI→v= .pointer (some ⟨bx,c,none⟩)) (h1:(i=1→v=va)∧(i=4→v=vl)∧(i=7→v=vo))
  (hA:i=2→W'.ownsRow W.heap.size 59 3 v g.accs.length (flR aP g.accs)) (hLn:i=5→W'.ownsRow W.heap.size 74 5 v g.lines.length (flR lnR g.lines)) (hF:i=8→W'.ownsRow W.heap.size 67 9 v g.offers.length (flR ofR g.offers)):
  JC w1 bx g va vl vo (fun k=>L k∨k=i) (cX ys i v) W':=by
 have hlt:=h.lt;have hsz:=h.fr.size;have FF:Fr (some bx) w1 W':=h.fr.same F.mono;have keepA:∀x,x≠i→(L x∨x=i)→L x:=fun x hx hl=>hl.resolve_right hx;refine⟨FF,?_,fun k c hk hl=>?_,⟨fun hl=>?_,fun hl=>?_,fun hl=>?_⟩,fun hl=>?_,fun hl=>?_,fun hl=>?_,⟨fun ha hc=>?_,fun ha hc=>?_,fun ha hc=>?_⟩⟩
 ·obtain⟨c1,c2,c3,b1,b2,b3,b4,b5,b6,b7⟩:=h.box;refine⟨c1,c2,c3,b1.fr F,fun hl=>?_,fun hn=>b3 fun x=>hn (.inl x),fun hl=>?_,fun hn=>b5 fun x=>hn (.inl x),fun hl=>?_,fun hn=>b7 fun x=>hn (.inl x)⟩
  ·have hq:L 10:=hl.resolve_right (fun e=>by omega);have e0:=b2 hq;by_cases e:2=i
   ·exact absurd (hdep10 hq) (e▸hL)
   rw[bB e];exact e0
  ·have hq:L 12:=hl.resolve_right (fun e=>by omega);have e0:=b4 hq;by_cases e:5=i
   ·exact absurd (hdep12 hq) (e▸hL)
   rw[bB e];exact e0
  have hq:L 14:=hl.resolve_right (fun e=>by omega);have e0:=b6 hq;by_cases e:8=i
  ·exact absurd (hdep14 hq) (e▸hL)
  rw[bB e];exact e0
 ·by_cases e:k=i
  ·subst e;rw[eI];exact hp c hk
  rw[bB e];exact h.ptr k c hk (hl.resolve_right e)
 ·by_cases e:1=i
  ·subst e;rw[eI];exact h1.1 rfl
  rw[bB e];exact h.ld.1 (hl.resolve_right e)
 ·by_cases e:4=i
  ·subst e;rw[eI];exact h1.2.1 rfl
  rw[bB e];exact h.ld.2.1 (hl.resolve_right e)
 ·by_cases e:7=i
  ·subst e;rw[eI];exact h1.2.2 rfl
  rw[bB e];exact h.ld.2.2 (hl.resolve_right e)
 ·by_cases e:2=i
  ·subst e;rw[eI];exact jB (hA rfl) hsz
  rw[bB e];exact aR (h.rA (hl.resolve_right e)) F (by simp)
 ·by_cases e:5=i
  ·subst e;rw[eI];exact jB (hLn rfl) hsz
  rw[bB e];exact aR (h.rL (hl.resolve_right e)) F (by simp)
 ·by_cases e:8=i
  ·subst e;rw[eI];exact jB (hF rfl) hsz
  rw[bB e];exact aR (h.rF (hl.resolve_right e)) F (by simp)
 ·by_cases e:2=i
  ·by_cases e2:5=i
   ·omega
   subst e;rw[eI,bB e2];exact(Dj.of (h.rL (hc.resolve_right e2)) (hA rfl) (Nat.le_refl _)).symm
  by_cases e2:5=i
  ·subst e2;rw[eI,bB e];exact Dj.of (h.rA (ha.resolve_right e)) (hLn rfl) (Nat.le_refl _)
  rw[bB e,bB e2];exact h.dj.1 (ha.resolve_right e) (hc.resolve_right e2)
 ·by_cases e:2=i
  ·by_cases e2:8=i
   ·omega
   subst e;rw[eI,bB e2];exact(Dj.of (h.rF (hc.resolve_right e2)) (hA rfl) (Nat.le_refl _)).symm
  by_cases e2:8=i
  ·subst e2;rw[eI,bB e];exact Dj.of (h.rA (ha.resolve_right e)) (hF rfl) (Nat.le_refl _)
  rw[bB e,bB e2];exact h.dj.2.1 (ha.resolve_right e) (hc.resolve_right e2)
 by_cases e:5=i
 ·by_cases e2:8=i
  ·omega
  subst e;rw[eI,bB e2];exact(Dj.of (h.rF (hc.resolve_right e2)) (hLn rfl) (Nat.le_refl _)).symm
 by_cases e2:8=i
 ·subst e2;rw[eI,bB e];exact Dj.of (h.rL (ha.resolve_right e)) (hF rfl) (Nat.le_refl _)
 rw[bB e,bB e2];exact h.dj.2.2 (ha.resolve_right e) (hc.resolve_right e2)
theorem JC.store{w1:World}{bx:Nat}{g:Lgr}{va vl vo:Value}{L:Nat→Prop}{ys:Nat→Value}{W:World}(h:JC w1 bx g va vl vo L ys W)(hb:bx<w1.heap.size){i c s:Nat}(hL:¬L i)(hi:(i,c,s) ∈ [(10,1,2),(12,2,5),(14,3,8)]):
  JC w1 bx g va vl vo (fun k=>L k∨k=i) (cX ys i undef) (W.setCell ⟨bx,c,none⟩ (ys s)):=by
 have F:Fr (some bx) W (W.setCell ⟨bx,c,none⟩ (ys s)):=Fr.set1 W ⟨bx,c,none⟩ (ys s);have hsm:∀x,some bx=some x→x<w1.heap.size:=fun x hx=>by injection hx with hx;omega
 have hi3:i=10∨i=12∨i=14:=by simp at hi;omega
 refine⟨h.fr.same F,?_,fun k c hk hl=>?_,⟨fun hl=>?_,fun hl=>?_,fun hl=>?_⟩,fun hl=>?_,fun hl=>?_,fun hl=>?_,⟨fun ha hc=>?_,fun ha hc=>?_,fun ha hc=>?_⟩⟩
 ·obtain⟨c1,c2,c3,b1,b2,b3,b4,b5,b6,b7⟩:=h.box;have hbs:=aI b1 c (ys s);simp only[List.mem_cons,Prod.mk.injEq,List.not_mem_nil,or_false] at hi;rcases hi with⟨rfl,rfl,rfl⟩|⟨rfl,rfl,rfl⟩|⟨rfl,rfl,rfl⟩
  ·refine⟨ys 2,c2,c3,hbs,fun _=>(bB (by decide)).symm,fun hn=>absurd (.inr rfl) hn,fun hl=>(b4 (hl.resolve_right (by decide))).trans (bB (by decide)).symm,fun hn=>b5 fun x=>hn (.inl x),fun hl=>(b6 (hl.resolve_right (by decide))).trans (bB (by decide)).symm,fun hn=>b7 fun x=>hn (.inl x)⟩
  ·refine⟨c1,ys 5,c3,hbs,fun hl=>(b2 (hl.resolve_right (by decide))).trans (bB (by decide)).symm,fun hn=>b3 fun x=>hn (.inl x),fun _=>(bB (by decide)).symm,fun hn=>absurd (.inr rfl) hn,fun hl=>(b6 (hl.resolve_right (by decide))).trans (bB (by decide)).symm,fun hn=>b7 fun x=>hn (.inl x)⟩
  refine⟨c1,c2,ys 8,hbs,fun hl=>(b2 (hl.resolve_right (by decide))).trans (bB (by decide)).symm,fun hn=>b3 fun x=>hn (.inl x),fun hl=>(b4 (hl.resolve_right (by decide))).trans (bB (by decide)).symm,fun hn=>b5 fun x=>hn (.inl x),fun _=>(bB (by decide)).symm,fun hn=>absurd (.inr rfl) hn⟩
 ·have hne:k≠i:=by
   unfold iI at hk;simp at hk;omega
  rw[bB hne];exact h.ptr k c hk (hl.resolve_right hne)
 ·have hne:1≠i:=by omega
  rw[bB hne];exact h.ld.1 (hl.resolve_right hne)
 ·have hne:4≠i:=by omega
  rw[bB hne];exact h.ld.2.1 (hl.resolve_right hne)
 ·have hne:7≠i:=by omega
  rw[bB hne];exact h.ld.2.2 (hl.resolve_right hne)
 ·have hne:2≠i:=by omega
  rw[bB hne];exact aR (h.rA (hl.resolve_right hne)) F hsm
 ·have hne:5≠i:=by omega
  rw[bB hne];exact aR (h.rL (hl.resolve_right hne)) F hsm
 ·have hne:8≠i:=by omega
  rw[bB hne];exact aR (h.rF (hl.resolve_right hne)) F hsm
 ·have hne:2≠i:=by omega
  have hne2:5≠i:=by omega
  rw[bB hne,bB hne2];exact h.dj.1 (ha.resolve_right hne) (hc.resolve_right hne2)
 ·have hne:2≠i:=by omega
  have hne2:8≠i:=by omega
  rw[bB hne,bB hne2];exact h.dj.2.1 (ha.resolve_right hne) (hc.resolve_right hne2)
 have hne:5≠i:=by omega
 have hne2:8≠i:=by omega
 rw[bB hne,bB hne2];exact h.dj.2.2 (ha.resolve_right hne) (hc.resolve_right hne2)
theorem kT{w:World}{base:Nat}{e:TypeId}{size n:Nat}{v:Value}{xs:List Value}(h:w.ownsRow base e size v n xs):∃A m c,v= .slice A m c:=by
 rcases h.2 with⟨h1,_⟩|⟨g,cap,cur,e1,_⟩
 ·exact⟨_,_,_,h1⟩
 exact⟨_,_,_,e1⟩
theorem tS{w:World}{b:Nat}{g:Lgr}{va vl vo:Value}(h:LgB w b g va vl vo)(c:Nat)(hc:c<7):∃v,w.cell? ⟨b,c,none⟩=some v:=by
 obtain⟨k0,k1,k2,k3,k4,k5,k6⟩:=h.cells;rcases(by omega:c=0∨c=1∨c=2∨c=3∨c=4∨c=5∨c=6) with rfl|rfl|rfl|rfl|rfl|rfl|rfl
 ·exact⟨_,k0⟩
 ·exact⟨_,k1⟩
 ·exact⟨_,k2⟩
 ·exact⟨_,k3⟩
 ·exact⟨_,k4⟩
 ·exact⟨_,k5⟩
 exact⟨_,k6⟩
theorem tw1{p:Prop}(h:p:=by
 go_upto_region 1 with(fail)
 generalize hW:(w.alloc _).alloc _=w1;obtain⟨F1,b1,b2⟩:Fr none w w1∧LgB w1 w.heap.size g (.slice A1 g.accs.length c1) (.slice A2 g.lines.length c2) (.slice A3 g.offers.length c3)∧w1.heap[w.heap.size+1]?=some (.cells #[.int .i64 0,.slice none 0 0,.slice none 0 0,.slice none 0 0,.int .i64 0,.int .i64 0,.int .u64 0] 30 (0,0)):=by rw[←hW];exact cW w _ _
 clear hW;obtain⟨bx,hbx⟩:∃bx,bx=w.heap.size:=⟨_,rfl⟩;have hbl:=aC b1;have HB2:=sH b2;rw[←hbx] at b1 hbl ⊢;have HBX:=sH hbx;clear hbx b2;refine nH (JC w1 bx g (.slice A1 g.accs.length c1) (.slice A2 g.lines.length c2) (.slice A3 g.offers.length c3)) [some 3,some 4,some 5,some 6,some 7,some 8,some 9,some 10,some 11,some 12,none,some 13,none,some 14,none] 16 (by kernel_rfl) (by kernel_rfl) (by kernel_rfl) (by kernel_rfl) (Nat.le_refl _) (by kernel_rfl) (by kernel_rfl) (fun ys=>⟨(Fr.refl _ _).drew,⟨_,_,_,b1.fr (r:=none) (Fr.refl _ _).drew (by simp),fun h=>h.elim,fun _=>rfl,fun h=>h.elim,fun _=>rfl,fun h=>h.elim,fun _=>rfl⟩,fun _ _ _ h=>h.elim,⟨fun h=>h.elim,fun h=>h.elim,fun h=>h.elim⟩,fun h=>h.elim,fun h=>h.elim,fun h=>h.elim,⟨fun h=>h.elim,fun h=>h.elim,fun h=>h.elim⟩⟩) ?_ ?_
 ·intro i hi L ys ev w9 hJ hL hC hdj evc evf evg evt evo o ho;have hi:i<15:=hi;have d10:L 10→L 2:=hC 10 2 (by kernel_rfl);have d12:L 12→L 5:=hC 12 5 (by kernel_rfl);have d14:L 14→L 8:=hC 14 8 (by kernel_rfl);have d21:L 2→L 1:=hC 2 1 (by kernel_rfl);have d54:L 5→L 4:=hC 5 4 (by kernel_rfl);have d87:L 8→L 7:=hC 8 7 (by kernel_rfl);have t1:ev (.tmp 1)= .pointer (some ⟨bx,0,none⟩):=(evo 1 (by kernel_rfl)).trans (by rw[HBX.out];rfl);by_cases hi0:i=0
  ·subst hi0;cases(show some _=some o from ho);refine .inl ⟨.pointer (some ⟨bx,1,none⟩),w9,?_,hJ.next hbl (Fr.refl _ _) hL d10 d12 d14 (by decide) (fun c hc=>by unfold iI at hc;simp at hc;rw[hc]) ⟨fun e=>(by cases e),fun e=>(by cases e),fun e=>(by cases e)⟩ (fun e=>by cases e) (fun e=>by cases e) (fun e=>by cases e)⟩;go_simp;try with_reducible rfl
  by_cases hi1:i=1
  ·subst hi1;cases(show some _=some o from ho);have t2:ev (.tmp 3)=_:=(evt 0 3 (by kernel_rfl)).trans (hJ.ptr 0 1 (by simp[iI]) (hdj 0 (by kernel_rfl)));obtain⟨x1,x2,x3,bb,b2,b3,b4,b5,b6,b7⟩:=hJ.box;obtain⟨k0,k1,k2,k3,k4,k5,k6⟩:=bb.cells;have e9:=b3 (fun h10=>hL (d21 (d10 h10)));rw[e9] at k1;refine .inl ⟨(.slice A1 g.accs.length c1),w9,?_,hJ.next hbl (Fr.refl _ _) hL d10 d12 d14 (by decide) (fun c hc=>by unfold iI at hc;simp at hc) ⟨fun e=>(by first|rfl|cases e),fun e=>(by first|rfl|cases e),fun e=>(by first|rfl|cases e)⟩ (fun e=>by cases e) (fun e=>by cases e) (fun e=>by cases e)⟩;clear hJ b2 b3 b4 b5 b6 b7 bb e9 hL hC hdj;go_simp;try with_reducible rfl
  by_cases hi2:i=2
  ·subst hi2;cases(show some _=some o from ho);have t2:ev (.tmp 4)=_:=(evt 1 4 (by kernel_rfl)).trans (hJ.ld.1 (hdj 1 (by kernel_rfl)));refine .inr (.inr ⟨54,#[(.slice A1 g.accs.length c1)],w9,?_,?_⟩)
   ·go_simp;try with_reducible rfl
   refine(mV g.accs _ w9 (HG.out.1.fr (F1.own hJ.fr (by rw[HBX.out];simp))) h1).mono ?_;rintro e w10 ⟨A,c,rfl,own,F10⟩;exact⟨_,rfl,hJ.next hbl F10 hL d10 d12 d14 (by decide) (fun c hc=>by unfold iI at hc;simp at hc) ⟨fun e=>(by cases e),fun e=>(by cases e),fun e=>(by cases e)⟩ (fun _=>own) (fun e=>by cases e) (fun e=>by cases e)⟩
  by_cases hi3:i=3
  ·subst hi3;cases(show some _=some o from ho);refine .inl ⟨.pointer (some ⟨bx,2,none⟩),w9,?_,hJ.next hbl (Fr.refl _ _) hL d10 d12 d14 (by decide) (fun c hc=>by unfold iI at hc;simp at hc;rw[hc]) ⟨fun e=>(by cases e),fun e=>(by cases e),fun e=>(by cases e)⟩ (fun e=>by cases e) (fun e=>by cases e) (fun e=>by cases e)⟩;go_simp;try with_reducible rfl
  by_cases hi4:i=4
  ·subst hi4;cases(show some _=some o from ho);have t2:ev (.tmp 6)=_:=(evt 3 6 (by kernel_rfl)).trans (hJ.ptr 3 2 (by simp[iI]) (hdj 3 (by kernel_rfl)));obtain⟨x1,x2,x3,bb,b2,b3,b4,b5,b6,b7⟩:=hJ.box;obtain⟨k0,k1,k2,k3,k4,k5,k6⟩:=bb.cells;have e9:=b5 (fun h12=>hL (d54 (d12 h12)));rw[e9] at k2;refine .inl ⟨(.slice A2 g.lines.length c2),w9,?_,hJ.next hbl (Fr.refl _ _) hL d10 d12 d14 (by decide) (fun c hc=>by unfold iI at hc;simp at hc) ⟨fun e=>(by first|rfl|cases e),fun e=>(by first|rfl|cases e),fun e=>(by first|rfl|cases e)⟩ (fun e=>by cases e) (fun e=>by cases e) (fun e=>by cases e)⟩;clear hJ b2 b3 b4 b5 b6 b7 bb e9 hL hC hdj;go_simp;try with_reducible rfl
  by_cases hi5:i=5
  ·subst hi5;cases(show some _=some o from ho);have t2:ev (.tmp 7)=_:=(evt 4 7 (by kernel_rfl)).trans (hJ.ld.2.1 (hdj 4 (by kernel_rfl)));refine .inr (.inr ⟨55,#[(.slice A2 g.lines.length c2)],w9,?_,?_⟩)
   ·go_simp;try with_reducible rfl
   refine(rQ g.lines _ w9 (HG.out.2.1.fr (F1.own hJ.fr (by rw[HBX.out];simp))) h2).mono ?_;rintro e w10 ⟨A,c,rfl,own,F10⟩;exact⟨_,rfl,hJ.next hbl F10 hL d10 d12 d14 (by decide) (fun c hc=>by unfold iI at hc;simp at hc) ⟨fun e=>(by cases e),fun e=>(by cases e),fun e=>(by cases e)⟩ (fun e=>by cases e) (fun _=>own) (fun e=>by cases e)⟩
  by_cases hi6:i=6
  ·subst hi6;cases(show some _=some o from ho);refine .inl ⟨.pointer (some ⟨bx,3,none⟩),w9,?_,hJ.next hbl (Fr.refl _ _) hL d10 d12 d14 (by decide) (fun c hc=>by unfold iI at hc;simp at hc;rw[hc]) ⟨fun e=>(by cases e),fun e=>(by cases e),fun e=>(by cases e)⟩ (fun e=>by cases e) (fun e=>by cases e) (fun e=>by cases e)⟩;go_simp;try with_reducible rfl
  by_cases hi7:i=7
  ·subst hi7;cases(show some _=some o from ho);have t2:ev (.tmp 9)=_:=(evt 6 9 (by kernel_rfl)).trans (hJ.ptr 6 3 (by simp[iI]) (hdj 6 (by kernel_rfl)));obtain⟨x1,x2,x3,bb,b2,b3,b4,b5,b6,b7⟩:=hJ.box;obtain⟨k0,k1,k2,k3,k4,k5,k6⟩:=bb.cells;have e9:=b7 (fun h14=>hL (d87 (d14 h14)));rw[e9] at k3;refine .inl ⟨(.slice A3 g.offers.length c3),w9,?_,hJ.next hbl (Fr.refl _ _) hL d10 d12 d14 (by decide) (fun c hc=>by unfold iI at hc;simp at hc) ⟨fun e=>(by first|rfl|cases e),fun e=>(by first|rfl|cases e),fun e=>(by first|rfl|cases e)⟩ (fun e=>by cases e) (fun e=>by cases e) (fun e=>by cases e)⟩;clear hJ b2 b3 b4 b5 b6 b7 bb e9 hL hC hdj;go_simp;try with_reducible rfl
  by_cases hi8:i=8
  ·subst hi8;cases(show some _=some o from ho);have t2:ev (.tmp 10)=_:=(evt 7 10 (by kernel_rfl)).trans (hJ.ld.2.2 (hdj 7 (by kernel_rfl)));refine .inr (.inr ⟨56,#[(.slice A3 g.offers.length c3)],w9,?_,?_⟩)
   ·go_simp;try with_reducible rfl
   refine(rR g.offers _ w9 (HG.out.2.2.1.fr (F1.own hJ.fr (by rw[HBX.out];simp))) h3).mono ?_;rintro e w10 ⟨A,c,rfl,own,F10⟩;exact⟨_,rfl,hJ.next hbl F10 hL d10 d12 d14 (by decide) (fun c hc=>by unfold iI at hc;simp at hc) ⟨fun e=>(by cases e),fun e=>(by cases e),fun e=>(by cases e)⟩ (fun e=>by cases e) (fun e=>by cases e) (fun _=>own)⟩
  by_cases hi9:i=9
  ·subst hi9;cases(show some _=some o from ho);refine .inl ⟨.pointer (some ⟨bx,1,none⟩),w9,?_,hJ.next hbl (Fr.refl _ _) hL d10 d12 d14 (by decide) (fun c hc=>by unfold iI at hc;simp at hc;rw[hc]) ⟨fun e=>(by cases e),fun e=>(by cases e),fun e=>(by cases e)⟩ (fun e=>by cases e) (fun e=>by cases e) (fun e=>by cases e)⟩;go_simp;try with_reducible rfl
  by_cases hi10:i=10
  ·subst hi10;cases(show some _=some o from ho);have t2:ev (.tmp 12)=_:=(evt 9 12 (by kernel_rfl)).trans (hJ.ptr 9 1 (by simp[iI]) (hdj 9 (by kernel_rfl)));have t3:ev (.tmp 5)=ys 2:=evt 2 5 (by kernel_rfl);have hJ2:=hJ.store hbl hL (i:=10) (c:=1) (s:=2) (by simp);obtain⟨A,n,c,hv⟩:=kT (hJ.rA (hdj 2 (by kernel_rfl)));rw[hv] at t3 hJ2;obtain⟨x1,x2,x3,bb,b2,b3,b4,b5,b6,b7⟩:=hJ.box;have k0:=tS bb 1 (by simp);have z0:=aB bb 1;have hbl9:=aC bb;refine .inr (.inl ⟨_,?_,hJ2⟩);clear hJ hJ2 b2 b3 b4 b5 b6 b7 bb hL hC hdj;obtain⟨k9,k0⟩:=k0;go_simp;try with_reducible rfl
  by_cases hi11:i=11
  ·subst hi11;cases(show some _=some o from ho);refine .inl ⟨.pointer (some ⟨bx,2,none⟩),w9,?_,hJ.next hbl (Fr.refl _ _) hL d10 d12 d14 (by decide) (fun c hc=>by unfold iI at hc;simp at hc;rw[hc]) ⟨fun e=>(by cases e),fun e=>(by cases e),fun e=>(by cases e)⟩ (fun e=>by cases e) (fun e=>by cases e) (fun e=>by cases e)⟩;go_simp;try with_reducible rfl
  by_cases hi12:i=12
  ·subst hi12;cases(show some _=some o from ho);have t2:ev (.tmp 13)=_:=(evt 11 13 (by kernel_rfl)).trans (hJ.ptr 11 2 (by simp[iI]) (hdj 11 (by kernel_rfl)));have t3:ev (.tmp 8)=ys 5:=evt 5 8 (by kernel_rfl);have hJ2:=hJ.store hbl hL (i:=12) (c:=2) (s:=5) (by simp);obtain⟨A,n,c,hv⟩:=kT (hJ.rL (hdj 5 (by kernel_rfl)));rw[hv] at t3 hJ2;obtain⟨x1,x2,x3,bb,b2,b3,b4,b5,b6,b7⟩:=hJ.box;have k0:=tS bb 2 (by simp);have z0:=aB bb 2;have hbl9:=aC bb;refine .inr (.inl ⟨_,?_,hJ2⟩);clear hJ hJ2 b2 b3 b4 b5 b6 b7 bb hL hC hdj;obtain⟨k9,k0⟩:=k0;go_simp;try with_reducible rfl
  by_cases hi13:i=13
  ·subst hi13;cases(show some _=some o from ho);refine .inl ⟨.pointer (some ⟨bx,3,none⟩),w9,?_,hJ.next hbl (Fr.refl _ _) hL d10 d12 d14 (by decide) (fun c hc=>by unfold iI at hc;simp at hc;rw[hc]) ⟨fun e=>(by cases e),fun e=>(by cases e),fun e=>(by cases e)⟩ (fun e=>by cases e) (fun e=>by cases e) (fun e=>by cases e)⟩;go_simp;try with_reducible rfl
  by_cases hi14:i=14
  ·subst hi14;cases(show some _=some o from ho);have t2:ev (.tmp 14)=_:=(evt 13 14 (by kernel_rfl)).trans (hJ.ptr 13 3 (by simp[iI]) (hdj 13 (by kernel_rfl)));have t3:ev (.tmp 11)=ys 8:=evt 8 11 (by kernel_rfl);have hJ2:=hJ.store hbl hL (i:=14) (c:=3) (s:=8) (by simp);obtain⟨A,n,c,hv⟩:=kT (hJ.rF (hdj 8 (by kernel_rfl)));rw[hv] at t3 hJ2;obtain⟨x1,x2,x3,bb,b2,b3,b4,b5,b6,b7⟩:=hJ.box;have k0:=tS bb 3 (by simp);have z0:=aB bb 3;have hbl9:=aC bb;refine .inr (.inl ⟨_,?_,hJ2⟩);clear hJ hJ2 b2 b3 b4 b5 b6 b7 bb hL hC hdj;obtain⟨k9,k0⟩:=k0;go_simp;try with_reducible rfl
  omega
 intro L ys W hJ hall;have hall:∀i,i<15→L i:=hall;obtain⟨x1,x2,x3,bb,b2, -,b4, -,b6, -⟩:=hJ.box;have oA:=hJ.rA (hall 2 (by omega));have oL:=hJ.rL (hall 5 (by omega));have oF:=hJ.rF (hall 8 (by omega));have og:OwG W w1.heap.size g (ys 2) (ys 5) (ys 8):=⟨oA,oL,oF,hJ.dj.1 (hall 2 (by omega)) (hall 5 (by omega)),hJ.dj.2.1 (hall 2 (by omega)) (hall 8 (by omega)),hJ.dj.2.2 (hall 5 (by omega)) (hall 8 (by omega))⟩;have hl2:=aC HB2.out;have HOG:=sH (And.intro hl2 og);clear hl2;obtain⟨A4,n4,c4,e4⟩:=kT oA;obtain⟨A5,n5,c5,e5⟩:=kT oL;obtain⟨A6,n6,c6,e6⟩:=kT oF;rw[b2 (hall 10 (by omega)),b4 (hall 12 (by omega)),b6 (hall 14 (by omega)),e4,e5,e6] at bb;rw[e4,e5,e6] at HOG;clear og;simp only[lA,Act.put,List.setIfInBounds_toArray,List.set_cons_zero,List.set_cons_succ,Nat.zero_add,Nat.reduceAdd];obtain⟨k0,k1,k2,k3,k4,k5,k6⟩:=bb.cells;have FW:=hJ.fr;have q2:=aF HB2.out FW (by rw[HBX.out];simp);have z0:W.cell? ⟨w.heap.size+1,0,none⟩=some (.int .i64 0):=by rw[aA q2];rfl
 have z1:W.cell? ⟨w.heap.size+1,1,none⟩=some (.slice none 0 0):=by rw[aA q2];rfl
 have z2:W.cell? ⟨w.heap.size+1,2,none⟩=some (.slice none 0 0):=by rw[aA q2];rfl
 have z3:W.cell? ⟨w.heap.size+1,3,none⟩=some (.slice none 0 0):=by rw[aA q2];rfl
 have z4:W.cell? ⟨w.heap.size+1,4,none⟩=some (.int .i64 0):=by rw[aA q2];rfl
 have z5:W.cell? ⟨w.heap.size+1,5,none⟩=some (.int .i64 0):=by rw[aA q2];rfl
 have z6:W.cell? ⟨w.heap.size+1,6,none⟩=some (.int .u64 0):=by rw[aA q2];rfl
 have l1:=aC bb;have l2:=aC q2;have y0:=aB q2 0;have y1:=aB q2 1;have y2:=aB q2 2;have y3:=aB q2 3;have y4:=aB q2 4;have y5:=aB q2 5;have y6:=aB q2 6;have FA:=F1.own FW (by rw[HBX.out];simp);clear hJ hall bb q2 b2 b4 b6 oA oL oF e4 e5 e6 FW;have hbx:=HBX.out;subst hbx;go_wp2;refine bodyPost_ret (v:=.agg #[.int .i64 g.num,.slice A4 n4 c4,.slice A5 n5 c5,.slice A6 n6 c6,.int .i64 g.nid,.int .i64 g.fees,.int .u64 (g.link:Int)]) (by simp[results,Tryz.results29,Tryz.results116,Tryz.results206,go_sem,z0,z1,z2,z3,z4,z5,z6]) rfl ?_;have F9:=((((((Fr.set1 W ⟨w.heap.size+1,0,none⟩ (.int .i64 g.num)).same (Fr.set1 _ ⟨w.heap.size+1,1,none⟩ (.slice A4 n4 c4))).same (Fr.set1 _ ⟨w.heap.size+1,2,none⟩ (.slice A5 n5 c5))).same (Fr.set1 _ ⟨w.heap.size+1,3,none⟩ (.slice A6 n6 c6))).same (Fr.set1 _ ⟨w.heap.size+1,4,none⟩ (.int .i64 g.nid))).same (Fr.set1 _ ⟨w.heap.size+1,5,none⟩ (.int .i64 g.fees))).same (Fr.set1 _ ⟨w.heap.size+1,6,none⟩ (.int .u64 (g.link:Int)));exact⟨_,_,_,rfl,(HOG.out.2.fr F9 (fun x e=>by have:=HOG.out.1;have e:some (w.heap.size+1)=some x:=e;injection e with e;omega)).base F1.size,FA.own F9⟩):p:=h
theorem AF(g:Lgr)(va vl vo:Value)(w:World)(h:LgS w none g va vl vo)(h1:g.accs.length≤1000000)(h2:g.lines.length≤1000000)(h3:g.offers.length≤1000000):Calls Tryz.prog 206 #[.agg #[.int .i64 g.num,va,vl,vo,.int .i64 g.nid,.int .i64 g.fees,.int .u64 (g.link:Int)]] w fun e w'=>∃va' vl' vo',e= .returned (.agg #[.int .i64 g.num,va',vl',vo',.int .i64 g.nid,.int .i64 g.fees,.int .u64 (g.link:Int)])∧OwG w' w.heap.size g va' vl' vo'∧Fr none w w':=by
 obtain⟨A1,c1,rfl, -, -, -⟩:=aN h.1;obtain⟨A2,c2,rfl, -, -, -⟩:=aU h.2.1;obtain⟨A3,c3,rfl, -, -, -⟩:=bA h.2.2.1;have HG:=sH h;clear h;go_enter Tryz.func206,Tryz.ntmps206;exact tw1
theorem mY(g:Lgr)(va vl vo:Value)(w:World)(h:LgS w none g va vl vo)(h1:g.accs.length≤1000000)(h2:g.lines.length≤1000000)(h3:g.offers.length≤1000000):Calls Tryz.prog 116 #[.agg #[.int .i64 g.num,va,vl,vo,.int .i64 g.nid,.int .i64 g.fees,.int .u64 (g.link:Int)]] w fun e w'=>∃va' vl' vo',e= .returned (.agg #[.int .i64 g.num,va',vl',vo',.int .i64 g.nid,.int .i64 g.fees,.int .u64 (g.link:Int)])∧OwG w' w.heap.size g va' vl' vo'∧Fr none w w':=by
 obtain⟨A1,c1,rfl, -, -, -⟩:=aN h.1;obtain⟨A2,c2,rfl, -, -, -⟩:=aU h.2.1;obtain⟨A3,c3,rfl, -, -, -⟩:=bA h.2.2.1;have HG:=sH h;clear h;go_enter Tryz.func116,Tryz.ntmps116;exact tw1
theorem kD(g:Lgr)(va vl vo:Value)(w:World)(h:LgS w none g va vl vo)(h1:g.accs.length≤1000000)(h2:g.lines.length≤1000000)(h3:g.offers.length≤1000000):Calls Tryz.prog 29 #[.agg #[.int .i64 g.num,va,vl,vo,.int .i64 g.nid,.int .i64 g.fees,.int .u64 (g.link:Int)]] w fun e w'=>∃va' vl' vo',e= .returned (.agg #[.int .i64 g.num,va',vl',vo',.int .i64 g.nid,.int .i64 g.fees,.int .u64 (g.link:Int)])∧OwG w' w.heap.size g va' vl' vo'∧Fr none w w':=by
 obtain⟨A1,c1,rfl, -, -, -⟩:=aN h.1;obtain⟨A2,c2,rfl, -, -, -⟩:=aU h.2.1;obtain⟨A3,c3,rfl, -, -, -⟩:=bA h.2.2.1;have HG:=sH h;clear h;go_enter Tryz.func29,Tryz.ntmps29;exact tw1
theorem aO{w:World}{base:Nat}{e:TypeId}{size n:Nat}{v:Value}{xs:List Value}(h:w.ownsRow base e size v n xs):∃A c,v= .slice A n c:=by
 rcases h.2 with⟨h1,h0⟩|⟨g,cap,cur,e1,_⟩
 ·exact⟨_,_,by rw[h1,h0]⟩
 exact⟨_,_,e1⟩
theorem bO{w w':World}{base:Nat}{e:TypeId}{size n:Nat}{v:Value}{xs:List Value}{b:Nat}(h:w.ownsRow base e size v n xs)(f:Fr (some b) w w')(hr:v.ownBlock≠some b):w'.ownsRow base e size v n xs:=h.kept f (.inr hr)
theorem aW{w:World}{b:Nat}{g0 g:Lgr}{va0 vl0 vo0 va vl vo:Value}(h:LgB w b g0 va0 vl0 vo0):
  Fr (some b) w (((((((w.setCell ⟨b,0,none⟩ (.int .i64 g.num)).setCell ⟨b,1,none⟩ va).setCell ⟨b,2,none⟩ vl).setCell ⟨b,3,none⟩ vo).setCell ⟨b,4,none⟩ (.int .i64 g.nid)).setCell ⟨b,5,none⟩ (.int .i64 g.fees)).setCell ⟨b,6,none⟩ (.int .u64 (g.link:Int)))∧
  LgB (((((((w.setCell ⟨b,0,none⟩ (.int .i64 g.num)).setCell ⟨b,1,none⟩ va).setCell ⟨b,2,none⟩ vl).setCell ⟨b,3,none⟩ vo).setCell ⟨b,4,none⟩ (.int .i64 g.nid)).setCell ⟨b,5,none⟩ (.int .i64 g.fees)).setCell ⟨b,6,none⟩ (.int .u64 (g.link:Int))) b g va vl vo:=by
 refine⟨((((((Fr.set1 w ⟨b,0,none⟩ _).same (Fr.set1 _ ⟨b,1,none⟩ _)).same (Fr.set1 _ ⟨b,2,none⟩ _)).same (Fr.set1 _ ⟨b,3,none⟩ _)).same (Fr.set1 _ ⟨b,4,none⟩ _)).same (Fr.set1 _ ⟨b,5,none⟩ _)).same (Fr.set1 _ ⟨b,6,none⟩ _),?_⟩;unfold LgB at h ⊢;have h7:=aI (aI (aI (aI (aI (aI (aI h 0 (.int .i64 g.num)) 1 va) 2 vl) 3 vo) 4 (.int .i64 g.nid)) 5 (.int .i64 g.fees)) 6 (.int .u64 (g.link:Int));simp only[List.setIfInBounds_toArray,List.set_cons_zero,List.set_cons_succ] at h7;exact h7
theorem jF(w:World)(o1 o2 o3 o4:Obj):Fr none w ((((w.alloc o1).alloc o2).alloc o3).alloc o4)∧((((w.alloc o1).alloc o2).alloc o3).alloc o4).heap[w.heap.size]?=some o1∧((((w.alloc o1).alloc o2).alloc o3).alloc o4).heap[w.heap.size+1]?=some o2∧((((w.alloc o1).alloc o2).alloc o3).alloc o4).heap[w.heap.size+2]?=some o3∧((((w.alloc o1).alloc o2).alloc o3).alloc o4).heap[w.heap.size+3]?=some o4:=by
 obtain⟨h1,h2,h3,h4⟩:=eS w o1 o2 o3;have s2:(((w.alloc o1).alloc o2).alloc o3).heap.size=w.heap.size+3:=by
  show(((w.heap.push o1).push o2).push o3).size=_;rw[Array.size_push,Array.size_push,Array.size_push]
 refine⟨h1.alloc _,aF h2 ((Fr.refl none _).alloc _) (by simp),aF h3 ((Fr.refl none _).alloc _) (by simp),aF h4 ((Fr.refl none _).alloc _) (by simp),?_⟩;have:=aD (((w.alloc o1).alloc o2).alloc o3) o4
 rwa [s2] at this
theorem Cq{w:World}{base b c k:Nat}{m:List Ln}(h:w.ownsRow base 74 5 (.slice (some ⟨b,0,none⟩) m.length c) m.length (flR lnR m))(hk:k<m.length)(j:Nat)(hj:j<5)(u:Value)(y:Ln)(hy:(lnR.enc m[k]).set j u=lnR.enc y):
  (w.setCell ⟨b,k*5+j,none⟩ u).ownsRow base 74 5 (.slice (some ⟨b,0,none⟩) m.length c) m.length (flR lnR (m.set k y)):=by
 have:=jU h (k*5+j) u
 rwa [show k*5+j=k*lnR.sz+j from rfl,lR lnR u y j hj m k hk hy] at this
theorem Cr{w:World}{base b c k:Nat}{m:List Ofr}(h:w.ownsRow base 67 9 (.slice (some ⟨b,0,none⟩) m.length c) m.length (flR ofR m))(hk:k<m.length)(j:Nat)(hj:j<9)(u:Value)(y:Ofr)(hy:(ofR.enc m[k]).set j u=ofR.enc y):
  (w.setCell ⟨b,k*9+j,none⟩ u).ownsRow base 67 9 (.slice (some ⟨b,0,none⟩) m.length c) m.length (flR ofR (m.set k y)):=by
 have:=jU h (k*9+j) u
 rwa [show k*9+j=k*ofR.sz+j from rfl,lR ofR u y j hj m k hk hy] at this
theorem lI{w:World}{base b c k:Nat}{m:List Ln}(h:w.ownsRow base 74 5 (.slice (some ⟨b,0,none⟩) m.length c) m.length (flR lnR m))(hk:k<m.length):
  w.cell? ⟨b,k*5+2+1,none⟩=some (.int .i64 m[k].bal)∧(∀i,w.frozen? ⟨b,i,none⟩=false)∧b<w.heap.size∧base≤b:=by
 obtain⟨h1,h2,h3,h4,_⟩:=aY h;exact⟨h2 _ _ ((bU lnR m k hk 3 (by decide)).trans rfl),h1,h3,h4⟩
theorem xT(y:aQ)(id:Int)(bx:Nat)(w:World)(h:w.cell? ⟨bx,0,none⟩=some (.int .i64 id)):Calls Tryz.prog 207 #[.agg #[.int .i64 y.id,.int .i64 y.bal,.int .i64 y.seq],.pointer (some ⟨bx,0,none⟩)] w fun e w'=>e= .returned (.bool (isA id y))∧Fr none w w':=by
 have HX:Hid ((y.id == id)=isA id y):=fE;go_enter Tryz.func207,Tryz.ntmps207;go_upto_region 1 with(fail)
 generalize hW:w.alloc _=w1;have F1:Fr none w w1:=hW▸(Fr.refl none w).alloc _;have b1:w1.heap[w.heap.size]?=some (.cells #[.int .i64 y.id,.int .i64 y.bal,.int .i64 y.seq] 59 (0,0)):=by rw[←hW];exact aD _ _
 have c0:w1.cell? ⟨w.heap.size,0,none⟩=some (.int .i64 y.id):=by rw[aA b1];rfl
 have c1:=F1.keep h;clear hW h;go_wp2;go_ret;exact⟨aJ (by rw[←HX.out]),F1⟩
theorem qJ:∀args w,Sem.run Tryz.prog (callFunc 207 args) w= .ok (.enter 207 args) w:=fun _ _=>by kernel_rfl
def NwG(g:Lgr)(w:World)(e:Ending)(w':World):Prop:=∃va vl vo,e= .returned (.agg #[.int .i64 g.num,va,vl,vo,.int .i64 g.nid,.int .i64 g.fees,.int .u64 (g.link:Int)])∧OwG w' w.heap.size g va vl vo∧Fr none w w'
def Cs(r:Lgr × Int)(w:World)(e:Ending)(w':World):Prop:=∃va vl vo,e= .returned (.tuple #[.agg #[.int .i64 r.1.num,va,vl,vo,.int .i64 r.1.nid,.int .i64 r.1.fees,.int .u64 (r.1.link:Int)],.int .i64 r.2])∧OwG w' w.heap.size r.1 va vl vo∧Fr none w w'
theorem OwG.zero(w:World)(base:Nat):OwG w base lg0 (.slice none 0 0) (.slice none 0 0) (.slice none 0 0):=⟨World.ownsRow_nil _ _ _ _,World.ownsRow_nil _ _ _ _,World.ownsRow_nil _ _ _ _,fun x h=>(by cases h),fun x h=>(by cases h),fun x h=>(by cases h)⟩
def AdK(w1:World)(b:Nat)(g:Lgr)(va vl vo:Value)(acc:Int)(a:Ast):Prop:=LgB w1 b g va vl vo∧w1.heap[b+1]?=some (.cells #[.int .i64 acc] 3 (0,0))∧dK w1 (b+2) a∧LgB w1 (b+3) lg0 (.slice none 0 0) (.slice none 0 0) (.slice none 0 0)
theorem AdK.fr{w w':World}{b:Nat}{g:Lgr}{va vl vo:Value}{acc:Int}{a:Ast}{r:Option Nat}(h:AdK w b g va vl vo acc a)(f:Fr r w w')(hr:∀x,r=some x→b+3<x:=by simp):AdK w' b g va vl vo acc a:=by
 obtain⟨h1,h2,h3,h4⟩:=h;have hne:∀k,k≤b+3→r≠some k:=fun k hk e=>by have:=hr k e;omega
 exact⟨h1.fr f (hne _ (by omega)),aF h2 f (hne _ (by omega)),h3.fr f (hne _ (by omega)),h4.fr f (hne _ (by omega))⟩
theorem cU{w:World}{b:Nat}{g:Lgr}{va vl vo:Value}{acc:Int}{a:Ast}(h:AdK w b g va vl vo acc a):(w.cell? ⟨b,0,none⟩=some (.int .i64 g.num)∧w.cell? ⟨b,1,none⟩=some va∧w.cell? ⟨b,2,none⟩=some vl∧w.cell? ⟨b,3,none⟩=some vo∧w.cell? ⟨b,4,none⟩=some (.int .i64 g.nid)∧w.cell? ⟨b,5,none⟩=some (.int .i64 g.fees)∧w.cell? ⟨b,6,none⟩=some (.int .u64 (g.link:Int)))∧w.cell? ⟨b+1,0,none⟩=some (.int .i64 acc)∧(w.cell? ⟨b+2,0,none⟩=some (.string (bL a.code))∧w.cell? ⟨b+2,1,none⟩=some (.int .i64 a.iss))∧w.cell? ⟨b+3,0,none⟩=some (.int .i64 0)∧w.cell? ⟨b+3,1,none⟩=some (.slice none 0 0)∧w.cell? ⟨b+3,2,none⟩=some (.slice none 0 0)∧w.cell? ⟨b+3,3,none⟩=some (.slice none 0 0)∧w.cell? ⟨b+3,4,none⟩=some (.int .i64 0)∧w.cell? ⟨b+3,5,none⟩=some (.int .i64 0)∧w.cell? ⟨b+3,6,none⟩=some (.int .u64 0):=by
 obtain⟨h1,h2,h3,h4⟩:=h;exact⟨h1.cells,by rw[aA h2];rfl,h3.cells,h4.cells⟩
theorem AdK.rb{w:World}{b:Nat}{g:Lgr}{va vl vo:Value}{acc:Int}{a:Ast}(h:AdK w b g va vl vo acc a):LgB w (b+3) lg0 (.slice none 0 0) (.slice none 0 0) (.slice none 0 0):=h.2.2.2
theorem AdK.free{w:World}{b:Nat}{g:Lgr}{va vl vo:Value}{acc:Int}{a:Ast}(h:AdK w b g va vl vo acc a):(∀i,w.frozen? ⟨b+3,i,none⟩=false)∧b+3<w.heap.size:=⟨fun i=>aB h.2.2.2 i,aC h.2.2.2⟩
theorem gY{z:Int}(h: -9223372036854775808≤z)(h2:z≤9223372036854775807):IntKind.i64.wrap z=z:=by
 rw[IntKind.wrap_i64];omega
theorem rZ(g:Lgr)(va vl vo:Value)(acc:Int)(a:Ast)(n:Int)(w:World)(h:LgS w none g va vl vo)(hk:bW g.lines g.accs=0)(hof:g.offers.length≤1000000)(hn1: -1000000000000≤n)(hn2:n≤1000000000000)
  (hA:a=nat→(aK g.accs acc).isSome=true) (hL:a≠nat→a.iss≠acc→(bS g.lines acc a).isSome=true):Calls Tryz.prog 176 #[.agg #[.int .i64 g.num,va,vl,vo,.int .i64 g.nid,.int .i64 g.fees,.int .u64 (g.link:Int)],.int .i64 acc,.agg #[.string (bL a.code),.int .i64 a.iss],.int .i64 n] w (NwG (dN g acc a n) w):=by
 obtain⟨l1,l2,l3,l4⟩:=bJ.1 hk;obtain⟨a1,a2,a3⟩:=bI.1 l1;have HBA:Hid (∀x ∈ g.accs,0≤x.bal∧x.bal≤1000000000000):=fun x hx=>(cQ.1 (a2 x hx)).2.1;have HBL:Hid (∀x ∈ g.lines,0≤x.bal∧x.bal≤1000000000000):=fun x hx=>by
  have:=l3 x hx;unfold kX aX at this;simp only[Bool.and_eq_true,decide_eq_true_eq] at this;omega
 clear l1 l3 l4 a2 a3 hk;obtain⟨V,hV⟩:∃V,V=dN g acc a n:=⟨_,rfl⟩;rw[←hV];unfold dN at hV;have HV:=sH hV;have HHA:=sH hA;have HHL:=sH hL;clear hV hA hL;obtain⟨A1,c1,rfl, -, -, -⟩:=aN h.1;obtain⟨A2,c2,rfl, -, -, -⟩:=aU h.2.1;obtain⟨A3,c3,rfl, -, -, -⟩:=bA h.2.2.1;have HG:=sH h;clear h;go_enter Tryz.func176,Tryz.ntmps176;go_upto_region 1 with(fail)
 generalize hW:(((w.alloc _).alloc _).alloc _).alloc _=w1;obtain⟨F1,had⟩:Fr none w w1∧AdK w1 w.heap.size g (.slice A1 g.accs.length c1) (.slice A2 g.lines.length c2) (.slice A3 g.offers.length c3) acc a:=by rw[←hW];exact jF w _ _ _ _
 clear hW;obtain⟨⟨k0,k1,k2,k3,k4,k5,k6⟩,k7,⟨k8,k9⟩,m0,m1,m2,m3,m4,m5,m6⟩:=cU had;go_wp2_with fail;refine(AF g _ _ _ w1 (HG.out.fr F1) (by omega) (by omega) hof).mono ?_;rintro e w2 ⟨va',vl',vo',rfl,og,F2⟩;obtain⟨A4,c4,rfl⟩:=aO og.a;obtain⟨A5,c5,rfl⟩:=aO og.l;obtain⟨A6,c6,rfl⟩:=aO og.o;clear k0 k1 k2 k3 k4 k5 k6 k7 k8 k9 m0 m1 m2 m3 m4 m5 m6;have hl1:=had.free.2;have had:=had.fr F2;obtain⟨⟨k0,k1,k2,k3,k4,k5,k6⟩,k7,⟨k8,k9⟩,m0,m1,m2,m3,m4,m5,m6⟩:=cU had;have y0:=aB had.1 0;have y1:=aB had.1 1;have y2:=aB had.1 2;have y3:=aB had.1 3;have y4:=aB had.1 4;have y5:=aB had.1 5;have y6:=aB had.1 6;go_upto_region 2 with(fail)
 generalize hW:(((((((w2.setCell ⟨w.heap.size,0,none⟩ (.int .i64 g.num)).setCell ⟨w.heap.size,1,none⟩ (.slice A4 g.accs.length c4)).setCell ⟨w.heap.size,2,none⟩ (.slice A5 g.lines.length c5)).setCell ⟨w.heap.size,3,none⟩ (.slice A6 g.offers.length c6)).setCell ⟨w.heap.size,4,none⟩ (.int .i64 g.nid)).setCell ⟨w.heap.size,5,none⟩ (.int .i64 g.fees)).setCell ⟨w.heap.size,6,none⟩ (.int .u64 (g.link:Int)))=w3;obtain⟨F3,hb3⟩:Fr (some w.heap.size) w2 w3∧LgB w3 w.heap.size g (.slice A4 g.accs.length c4) (.slice A5 g.lines.length c5) (.slice A6 g.offers.length c6):=by rw[←hW];exact aW had.1
 have had:AdK w3 w.heap.size g (.slice A4 g.accs.length c4) (.slice A5 g.lines.length c5) (.slice A6 g.offers.length c6) acc a:=⟨hb3,aF had.2.1 F3 (by simp),had.2.2.1.fr F3,had.2.2.2.fr F3⟩;have og:=og.fr F3 (fun x e=>by injection e with e;omega);have FA:=(F1.pure F2).own F3;clear k0 k1 k2 k3 k4 k5 k6 k7 k8 k9 m0 m1 m2 m3 m4 m5 m6;clear hW hb3 y0 y1 y2 y3 y4 y5 y6 F2 F3;have HBG:=sH hl1;have HSZ:Hid (w.heap.size≤w1.heap.size):=F1.size;clear hl1;obtain⟨⟨k0,k1,k2,k3,k4,k5,k6⟩,k7,⟨k8,k9⟩,m0,m1,m2,m3,m4,m5,m6⟩:=cU had;go_wp2_with fail;refine(eA a w3).mono ?_;rintro e w4 ⟨rfl,F4⟩;clear k0 k1 k2 k3 k4 k5 k6 k7 k8 k9 m0 m1 m2 m3 m4 m5 m6;have had:=had.fr F4;have og:=og.fr F4;have FA:=FA.pure F4;clear F4;by_cases hn:a=nat
 ·rw[decide_eq_true hn];have hv:=HV.out.trans (if_pos hn);have hsome:=HHA.out hn;rcases fO (p:=isA acc) (l:=g.accs) with⟨hi,hp⟩|⟨k,hk,hi,hp⟩
  ·have:aK g.accs acc=none:=by
    unfold aK;rw[List.find?_eq_none];intro x hx;have:=List.findIdx?_eq_none_iff.1 hi x hx;simp[this]
   rw[this] at hsome;cases hsome
  have hu:jW (isA acc) (jY n) g.accs=g.accs.set k (jY n g.accs[k]):=by
   unfold jW;rw[hi];simp only[List.getElem?_eq_getElem hk]
  rw[hu] at hv;have HX:=sH hv;have hb:=HBA.out _ (List.getElem_mem hk);have hw:wrap64 (g.accs[k].bal+n)=g.accs[k].bal+n:=fV (by omega) (by omega);obtain⟨rb,rfl⟩:=dZ og.a (by omega);have hne1:=og.al rb rfl;have hne2:=og.ao rb rfl;have HOG:=sH og;have hrb:=bR og.a rfl;clear hv hsome hi hu hb hn og;obtain⟨⟨k0,k1,k2,k3,k4,k5,k6⟩,k7,⟨k8,k9⟩,m0,m1,m2,m3,m4,m5,m6⟩:=cU had;go_wp2_with fail;refine(yS (isA acc) 207 #[.pointer (some ⟨w.heap.size+1,0,none⟩)] qJ g.accs _ w4 (SlR.of_own HOG.out.a (by simp) HG.out.1.2) (fun y _ W FW=>xT y acc (w.heap.size+1) W (FW.keep k7))).mono ?_;rintro e w5 ⟨rfl,F5⟩;rw[hp];clear k0 k1 k2 k3 k4 k5 k6 k7 k8 k9 m0 m1 m2 m3 m4 m5 m6;have had:=had.fr F5;have og:=HOG.out.fr F5;have FA:=FA.pure F5;obtain⟨e0,e1,e2,ez,eb,_⟩:=gX og.a hk;obtain⟨⟨k0,k1,k2,k3,k4,k5,k6⟩,k7,⟨k8,k9⟩,m0,m1,m2,m3,m4,m5,m6⟩:=cU had;go_upto_region 7 with(fail)
  generalize hW:w5.setCell _ _=w6;have F6:Fr (some rb) w5 w6:=hW▸Fr.set1 w5 ⟨rb,k*3+1,none⟩ (.int .i64 (g.accs[k].bal+n));have og6:OwG w6 w1.heap.size {g with accs:=g.accs.set k (jY n g.accs[k])} (.slice (some ⟨rb,0,none⟩) g.accs.length c4) (.slice A5 g.lines.length c5) (.slice A6 g.offers.length c6):=⟨by have:=oG og.a hk 1 (by decide) (.int .i64 (g.accs[k].bal+n)) (jY n g.accs[k]) rfl;rw[hW] at this;simpa using this,bO og.l F6 hne1,bO og.o F6 hne2,og.al,og.ao,og.lo⟩;have had:=had.fr F6 (fun x e=>by injection e with e;have:=HBG.out;omega);have FA:=FA.own F6 (fun x e=>by injection e with e;have:=HSZ.out;omega);clear k0 k1 k2 k3 k4 k5 k6 k7 k8 k9 m0 m1 m2 m3 m4 m5 m6;clear hW e0 e1 e2 ez;obtain⟨hf3,hl3⟩:=had.free;have y0:=hf3 0;have y1:=hf3 1;have y2:=hf3 2;have y3:=hf3 3;have y4:=hf3 4;have y5:=hf3 5;have y6:=hf3 6;have HAD:=sH had;have HOG6:=sH og6;obtain⟨⟨k0,k1,k2,k3,k4,k5,k6⟩,k7,⟨k8,k9⟩,m0,m1,m2,m3,m4,m5,m6⟩:=cU had;clear og6 og hne1 hne2 hf3;go_wp2;refine bodyPost_ret (v:=.agg #[.int .i64 ({g with accs:=g.accs.set k (jY n g.accs[k])}).num,(.slice (some ⟨rb,0,none⟩) g.accs.length c4),(.slice A5 g.lines.length c5),(.slice A6 g.offers.length c6),.int .i64 ({g with accs:=g.accs.set k (jY n g.accs[k])}).nid,.int .i64 ({g with accs:=g.accs.set k (jY n g.accs[k])}).fees,.int .u64 (({g with accs:=g.accs.set k (jY n g.accs[k])}).link:Int)]) (by simp[results,Tryz.results176,go_sem,m0,m1,m2,m3,m4,m5,m6]) rfl ?_;have F9:=(aW (g:={g with accs:=g.accs.set k (jY n g.accs[k])}) (va:=(.slice (some ⟨rb,0,none⟩) g.accs.length c4)) (vl:=(.slice A5 g.lines.length c5)) (vo:=(.slice A6 g.offers.length c6)) (AdK.rb HAD.out)).1;exact⟨_,_,_,by rw[HX.out],by rw[HX.out];exact((HOG6.out).fr F9 (fun x e=>by have e:some (w.heap.size+3)=some x:=e;injection e with e;have:=HBG.out;omega)).base HSZ.out,(FA).own F9⟩
 rw[decide_eq_false hn];have hv:=HV.out.trans (if_neg hn);have HHL2:=sH (HHL.out hn);clear hn;by_cases hi:a.iss=acc
 ·have HX:=sH (hv.trans (if_pos hi));have hd:(a.iss == acc)=true:=by rw[fE,decide_eq_true hi]
  obtain⟨hf3,hl3⟩:=had.free;have y0:=hf3 0;have y1:=hf3 1;have y2:=hf3 2;have y3:=hf3 3;have y4:=hf3 4;have y5:=hf3 5;have y6:=hf3 6;have HAD:=sH had;have HOG6:=sH og;obtain⟨⟨k0,k1,k2,k3,k4,k5,k6⟩,k7,⟨k8,k9⟩,m0,m1,m2,m3,m4,m5,m6⟩:=cU had;clear og hf3 hv hi;go_wp2;refine bodyPost_ret (v:=.agg #[.int .i64 (g).num,(.slice A4 g.accs.length c4),(.slice A5 g.lines.length c5),(.slice A6 g.offers.length c6),.int .i64 (g).nid,.int .i64 (g).fees,.int .u64 ((g).link:Int)]) (by simp[results,Tryz.results176,go_sem,m0,m1,m2,m3,m4,m5,m6]) rfl ?_;have F9:=(aW (g:=g) (va:=(.slice A4 g.accs.length c4)) (vl:=(.slice A5 g.lines.length c5)) (vo:=(.slice A6 g.offers.length c6)) (AdK.rb HAD.out)).1;exact⟨_,_,_,by rw[HX.out],by rw[HX.out];exact((HOG6.out).fr F9 (fun x e=>by have e:some (w.heap.size+3)=some x:=e;injection e with e;have:=HBG.out;omega)).base HSZ.out,(FA).own F9⟩
 have hv:=hv.trans (if_neg hi);have hd:(a.iss == acc)=false:=by rw[fE,decide_eq_false hi]
 have hsome:=HHL2.out hi;clear hi;rcases fO (p:=isL acc a) (l:=g.lines) with⟨hi,hp⟩|⟨k,hk,hi,hp⟩
 ·have:bS g.lines acc a=none:=by
   unfold bS;rw[List.find?_eq_none];intro x hx;have:=List.findIdx?_eq_none_iff.1 hi x hx;simp[this]
  rw[this] at hsome;cases hsome
 have hu:jW (isL acc a) (kY n) g.lines=g.lines.set k (kY n g.lines[k]):=by
  unfold jW;rw[hi];simp only[List.getElem?_eq_getElem hk]
 rw[hu] at hv;have HX:=sH hv;have hb:=HBL.out _ (List.getElem_mem hk);have hw:wrap64 (g.lines[k].bal+n)=g.lines[k].bal+n:=fV (by omega) (by omega);have hw2:IntKind.i64.wrap (g.lines[k].bal+n)=g.lines[k].bal+n:=gY (by omega) (by omega);obtain⟨rb,rfl⟩:=dZ og.l (by omega);have hne1:=og.al.symm rb rfl;have hne2:=og.lo rb rfl;have HOG:=sH og;have hrb:=bR og.l rfl;have hkl:(k:Int)<(g.lines.length:Int):=by omega
 clear hv hsome hi hu hb og;obtain⟨⟨k0,k1,k2,k3,k4,k5,k6⟩,k7,⟨k8,k9⟩,m0,m1,m2,m3,m4,m5,m6⟩:=cU had;go_upto_region 6 with(fail)
 clear k0 k1 k2 k3 k4 k5 k6 k7 k8 k9 m0 m1 m2 m3 m4 m5 m6;refine aL (fun W=>Fr none w4 W) 14 49 [some 47,some 46,some 45,some 44,some 43,some 42,some 41,some 40,some 39,some 38,some 37,some 36,some 35,some 34] (by kernel_rfl) (by kernel_rfl) (by kernel_rfl) (Nat.le_refl _) ((Fr.refl _ _).drew) ?_;refine FxL.p [] [4] ?_;have HF1:=sH (fun(w:World) (hS:(fun W=>Fr none w4 W) w)=>cU (had.fr hS));refine FxL.q HF1.out [(0,0,34)] [] ?_;refine FxL.p [] [4] ?_;refine FxL.q HF1.out [(0,2,36)] [] ?_;refine FxL.q HF1.out [] [5] ?_;refine FxL.q HF1.out [] [6] ?_;refine FxL.c [(2,3,37),(1,4,38),(0,5,39)] [] (fun w hS=>(hp▸mW g.lines _ acc a w (SlR.of_own (HOG.out.fr hS).l (by simp) HG.out.2.1.2))) ?_;have HF2:=sH (fun(w:World) (hS:(fun W=>Fr none w4 W) w)=>And.intro (cU (had.fr hS)) (lI (HOG.out.fr hS).l hk));refine FxL.q HF2.out [(5,1,35),(0,6,40)] [] ?_;refine FxL.p [(0,7,41)] [] ?_;refine FxL.q HF2.out [(0,8,42)] [] ?_;refine FxL.p [] [3] ?_;refine FxL.p [(1,9,43),(0,10,44)] [] ?_;refine FxL.q HF2.out [(10,1,35),(5,6,40)] [] ?_;refine FxL.p [(0,12,46)] [] ?_;refine FxL.done (fun W hW=>?_);simp only[bF];try simp only[sI]
 try simp only[sK]
 have og:=HOG.out.fr hW;have had:=had.fr hW;have FA:=FA.pure hW;obtain⟨e0,ez,eb,_⟩:=lI og.l hk;clear hW;obtain⟨⟨k0,k1,k2,k3,k4,k5,k6⟩,k7,⟨k8,k9⟩,m0,m1,m2,m3,m4,m5,m6⟩:=cU had;go_upto_region 7 with(fail)
 generalize hW:W.setCell _ _=w6;have F6:Fr (some rb) W w6:=hW▸Fr.set1 W ⟨rb,k*5+2+1,none⟩ (.int .i64 (g.lines[k].bal+n));have og6:OwG w6 w1.heap.size {g with lines:=g.lines.set k (kY n g.lines[k])} (.slice A4 g.accs.length c4) (.slice (some ⟨rb,0,none⟩) g.lines.length c5) (.slice A6 g.offers.length c6):=⟨bO og.a F6 hne1,by have:=Cq og.l hk 3 (by decide) (.int .i64 (g.lines[k].bal+n)) (kY n g.lines[k]) rfl;rw[show k*5+3=k*5+2+1 from rfl,hW] at this;simpa using this,bO og.o F6 hne2,og.al,og.ao,og.lo⟩;have had:=had.fr F6 (fun x e=>by injection e with e;have:=HBG.out;omega);have FA:=FA.own F6 (fun x e=>by injection e with e;have:=HSZ.out;omega);clear k0 k1 k2 k3 k4 k5 k6 k7 k8 k9 m0 m1 m2 m3 m4 m5 m6;clear hW e0 ez;obtain⟨hf3,hl3⟩:=had.free;have y0:=hf3 0;have y1:=hf3 1;have y2:=hf3 2;have y3:=hf3 3;have y4:=hf3 4;have y5:=hf3 5;have y6:=hf3 6;have HAD:=sH had;have HOG6:=sH og6;obtain⟨⟨k0,k1,k2,k3,k4,k5,k6⟩,k7,⟨k8,k9⟩,m0,m1,m2,m3,m4,m5,m6⟩:=cU had;clear og6 og hne1 hne2 hf3;go_wp2;refine bodyPost_ret (v:=.agg #[.int .i64 ({g with lines:=g.lines.set k (kY n g.lines[k])}).num,(.slice A4 g.accs.length c4),(.slice (some ⟨rb,0,none⟩) g.lines.length c5),(.slice A6 g.offers.length c6),.int .i64 ({g with lines:=g.lines.set k (kY n g.lines[k])}).nid,.int .i64 ({g with lines:=g.lines.set k (kY n g.lines[k])}).fees,.int .u64 (({g with lines:=g.lines.set k (kY n g.lines[k])}).link:Int)]) (by simp[results,Tryz.results176,go_sem,m0,m1,m2,m3,m4,m5,m6]) rfl ?_;have F9:=(aW (g:={g with lines:=g.lines.set k (kY n g.lines[k])}) (va:=(.slice A4 g.accs.length c4)) (vl:=(.slice (some ⟨rb,0,none⟩) g.lines.length c5)) (vo:=(.slice A6 g.offers.length c6)) (AdK.rb HAD.out)).1;exact⟨_,_,_,by rw[HX.out],by rw[HX.out];exact((HOG6.out).fr F9 (fun x e=>by have e:some (w.heap.size+3)=some x:=e;injection e with e;have:=HBG.out;omega)).base HSZ.out,(FA).own F9⟩
def CrK(w1:World)(b:Nat)(g:Lgr)(va vl vo:Value)(a:Ast):Prop:=LgB w1 b g va vl vo∧dK w1 (b+1) a∧LgB w1 (b+2) lg0 (.slice none 0 0) (.slice none 0 0) (.slice none 0 0)
theorem CrK.fr{w w':World}{b:Nat}{g:Lgr}{va vl vo:Value}{a:Ast}{r:Option Nat}(h:CrK w b g va vl vo a)(f:Fr r w w')(hr:∀x,r=some x→b+2<x:=by simp):CrK w' b g va vl vo a:=by
 obtain⟨h1,h3,h4⟩:=h;have hne:∀k,k≤b+2→r≠some k:=fun k hk e=>by have:=hr k e;omega
 exact⟨h1.fr f (hne _ (by omega)),h3.fr f (hne _ (by omega)),h4.fr f (hne _ (by omega))⟩
theorem CrK.cells{w:World}{b:Nat}{g:Lgr}{va vl vo:Value}{a:Ast}(h:CrK w b g va vl vo a):(w.cell? ⟨b,0,none⟩=some (.int .i64 g.num)∧w.cell? ⟨b,1,none⟩=some va∧w.cell? ⟨b,2,none⟩=some vl∧w.cell? ⟨b,3,none⟩=some vo∧w.cell? ⟨b,4,none⟩=some (.int .i64 g.nid)∧w.cell? ⟨b,5,none⟩=some (.int .i64 g.fees)∧w.cell? ⟨b,6,none⟩=some (.int .u64 (g.link:Int)))∧(w.cell? ⟨b+1,0,none⟩=some (.string (bL a.code))∧w.cell? ⟨b+1,1,none⟩=some (.int .i64 a.iss))∧w.cell? ⟨b+2,0,none⟩=some (.int .i64 0)∧w.cell? ⟨b+2,1,none⟩=some (.slice none 0 0)∧w.cell? ⟨b+2,2,none⟩=some (.slice none 0 0)∧w.cell? ⟨b+2,3,none⟩=some (.slice none 0 0)∧w.cell? ⟨b+2,4,none⟩=some (.int .i64 0)∧w.cell? ⟨b+2,5,none⟩=some (.int .i64 0)∧w.cell? ⟨b+2,6,none⟩=some (.int .u64 0):=by
 obtain⟨h1,h3,h4⟩:=h;exact⟨h1.cells,h3.cells,h4.cells⟩
theorem CrK.rb{w:World}{b:Nat}{g:Lgr}{va vl vo:Value}{a:Ast}(h:CrK w b g va vl vo a):LgB w (b+2) lg0 (.slice none 0 0) (.slice none 0 0) (.slice none 0 0):=h.2.2
theorem CrK.free{w:World}{b:Nat}{g:Lgr}{va vl vo:Value}{a:Ast}(h:CrK w b g va vl vo a):(∀i,w.frozen? ⟨b+2,i,none⟩=false)∧b+2<w.heap.size:=⟨fun i=>aB h.2.2 i,aC h.2.2⟩
theorem CrK.lt{w:World}{b:Nat}{g:Lgr}{va vl vo:Value}{a:Ast}(h:CrK w b g va vl vo a):b<w.heap.size:=aC h.1
theorem Hy{p:Prop}(h:p:=by
 obtain⟨A4,c4,rfl⟩:=aO og.a;obtain⟨A5,c5,rfl⟩:=aO og.l;obtain⟨A6,c6,rfl⟩:=aO og.o;have HOG:=sH og;have HBL:=sH had.lt;clear og;obtain⟨⟨k0,k1,k2,k3,k4,k5,k6⟩,⟨k8,k9⟩,m0,m1,m2,m3,m4,m5,m6⟩:=CrK.cells had;obtain⟨hf3,hl3⟩:=had.free;have y0:=hf3 0;have y1:=hf3 1;have y2:=hf3 2;have y3:=hf3 3;have y4:=hf3 4;have y5:=hf3 5;have y6:=hf3 6;have HAD:=sH had;clear hf3;go_wp2;refine bodyPost_ret (v:=.tuple #[.agg #[.int .i64 g'.num,.slice A4 g'.accs.length c4,.slice A5 g'.lines.length c5,.slice A6 g'.offers.length c6,.int .i64 g'.nid,.int .i64 g'.fees,.int .u64 (g'.link:Int)],.int .i64 0]) (by simp[results,Tryz.results145,Tryz.results146,go_sem,m0,m1,m2,m3,m4,m5,m6]) rfl ?_;have F9:=(aW (g:=g') (va:=.slice A4 g'.accs.length c4) (vl:=.slice A5 g'.lines.length c5) (vo:=.slice A6 g'.offers.length c6) (CrK.rb HAD.out)).1;exact⟨_,_,_,by rw[HX.out],by rw[HX.out];exact(HOG.out.fr F9 (fun x e=>by have e:some (w.heap.size+2)=some x:=e;injection e with e;have:=HB4.out;omega)).base hsz,FB.own F9⟩):p:=h
theorem tw9{p:Prop}(h:p:=by
 have F9:=(aW (g:=lg0) (va:=.slice none 0 0) (vl:=.slice none 0 0) (vo:=.slice none 0 0) (CrK.rb HAD.out)).1;exact⟨.slice none 0 0,.slice none 0 0,.slice none 0 0,by rw[HX.out];rfl,by rw[HX.out];exact OwG.zero _ _,FA.own F9⟩):p:=h
theorem vY(g:Lgr)(va vl vo:Value)(acc:Int)(a:Ast)(n:Int)(w:World)(h:LgS w none g va vl vo)(hof:g.offers.length≤1000000):Calls Tryz.prog 146 #[.agg #[.int .i64 g.num,va,vl,vo,.int .i64 g.nid,.int .i64 g.fees,.int .u64 (g.link:Int)],.int .i64 acc,.agg #[.string (bL a.code),.int .i64 a.iss],.int .i64 n] w (Cs (crd g acc a n) w):=by
 obtain⟨V,hV⟩:∃V,V=crd g acc a n:=⟨_,rfl⟩;rw[←hV];unfold crd at hV;have HV:=sH hV;clear hV;obtain⟨A1,c1,rfl, -, -, -⟩:=aN h.1;obtain⟨A2,c2,rfl, -, -, -⟩:=aU h.2.1;obtain⟨A3,c3,rfl, -, -, -⟩:=bA h.2.2.1;have HG:=sH h;clear h;go_enter Tryz.func146,Tryz.ntmps146;go_upto_region 1 with(fail)
 generalize hW:((w.alloc _).alloc _).alloc _=w1;obtain⟨FA,had⟩:Fr none w w1∧CrK w1 w.heap.size g (.slice A1 g.accs.length c1) (.slice A2 g.lines.length c2) (.slice A3 g.offers.length c3) a:=by rw[←hW];exact eS w _ _ _
 clear hW;obtain⟨⟨k0,k1,k2,k3,k4,k5,k6⟩,⟨k8,k9⟩,m0,m1,m2,m3,m4,m5,m6⟩:=CrK.cells had;go_wp2_with fail;refine(vW g _ _ _ acc a n w1 (HG.out.fr FA)).mono ?_;rintro e w2 ⟨rfl,F2⟩;clear k0 k1 k2 k3 k4 k5 k6 k8 k9 m0 m1 m2 m3 m4 m5 m6;have FA:=FA.pure F2;have had:=had.fr F2;clear F2;obtain⟨C,hC⟩:∃C,C=ckT g acc a n:=⟨_,rfl⟩;have HC:=sH hC;rw[←hC] at HV ⊢;clear hC;by_cases h0:C=0
 ·subst h0;have HV:=sH (HV.out.trans (if_neg (by simp)));obtain⟨t1,t2,⟨x,t3⟩,t4,t5⟩:=tH HC.out.symm;have HT1:=sH t1;have HT3:=sH t3;have HT2:=sH t2;clear t1 t2 t3 HC;obtain⟨⟨k0,k1,k2,k3,k4,k5,k6⟩,⟨k8,k9⟩,m0,m1,m2,m3,m4,m5,m6⟩:=CrK.cells had;go_wp2_with fail;refine(mX g _ _ _ acc a w2 (HG.out.fr FA) HT1.out).mono ?_;rintro e w3 ⟨rfl,F3⟩;have HLK:Hid ((bN g acc a).2=true→a≠nat→a.iss≠acc→(bS g.lines acc a).isSome=true):=fun h1 h2 h3=>by
   unfold bN at h1;rw[HT3.out] at h1;simp only[HT2.out,if_neg h2,if_neg h3] at h1;cases e:bS g.lines acc a with
   |none=>rw[e] at h1;simp at h1
   |some l=>rfl
  generalize bN g acc a=R at*
  obtain⟨⟨x1,x2⟩,z⟩:=R;clear k0 k1 k2 k3 k4 k5 k6 k8 k9 m0 m1 m2 m3 m4 m5 m6;have FA:=FA.pure F3;have had:=had.fr F3;clear F3;go_upto_region 5 with(fail)
  generalize hW:w3.alloc _=w4;have F4:Fr none w3 w4:=hW▸(Fr.refl none w3).alloc _;have b7:w4.heap[w3.heap.size]?=some (.cells #[.int .i64 x1,.int .i64 x2] 194 (0,0)):=by rw[←hW];exact aD _ _
  have q0:w4.cell? ⟨w3.heap.size,0,none⟩=some (.int .i64 x1):=by rw[aA b7];rfl
  have q1:w4.cell? ⟨w3.heap.size,1,none⟩=some (.int .i64 x2):=by rw[aA b7];rfl
  have l7:=aC b7;have FA:=FA.pure F4;have had:=had.fr F4;clear hW F4;obtain⟨⟨k0,k1,k2,k3,k4,k5,k6⟩,⟨k8,k9⟩,m0,m1,m2,m3,m4,m5,m6⟩:=CrK.cells had;cases z with
  |false=>
   have HX:=sH (HV.out.trans (if_pos rfl));obtain⟨hf3,hl3⟩:=had.free;have y0:=hf3 0;have y1:=hf3 1;have y2:=hf3 2;have y3:=hf3 3;have y4:=hf3 4;have y5:=hf3 5;have y6:=hf3 6;have HAD:=sH had;clear hf3;go_wp2;refine bodyPost_ret (v:=.tuple #[.agg #[.int .i64 0,.slice none 0 0,.slice none 0 0,.slice none 0 0,.int .i64 0,.int .i64 0,.int .u64 0],.int .i64 70]) (by simp[results,Tryz.results146,go_sem,m0,m1,m2,m3,m4,m5,m6]) rfl ?_;exact tw9
  |true=>
   have HV:=sH (HV.out.trans (if_neg (by simp)));have HLK2:Hid (a≠nat→a.iss≠acc→(bS g.lines acc a).isSome=true):=HLK.out rfl;clear HLK;by_cases hr:x2<n
   ·have hd:decide (x2<n)=true:=decide_eq_true hr;have HV:=sH (HV.out.trans (if_pos hr));clear hr;go_wp2_with fail;refine(eA a w4).mono ?_;rintro e w5 ⟨rfl,F5⟩;clear k0 k1 k2 k3 k4 k5 k6 k8 k9 m0 m1 m2 m3 m4 m5 m6;have FA:=FA.pure F5;have had:=had.fr F5;have b7:=aF b7 F5 (by simp);clear F5 q0 q1;have q0:w5.cell? ⟨w3.heap.size,0,none⟩=some (.int .i64 x1):=by rw[aA b7];rfl
    have q1:w5.cell? ⟨w3.heap.size,1,none⟩=some (.int .i64 x2):=by rw[aA b7];rfl
    have l7:=aC b7;clear b7;obtain⟨⟨k0,k1,k2,k3,k4,k5,k6⟩,⟨k8,k9⟩,m0,m1,m2,m3,m4,m5,m6⟩:=CrK.cells had;by_cases hn:a=nat
    ·rw[decide_eq_true hn];have HX:Hid (V=(lg0,65)):=by unfold Hid;rw[HV.out,if_pos hn]
     clear hn;obtain⟨hf3,hl3⟩:=had.free;have y0:=hf3 0;have y1:=hf3 1;have y2:=hf3 2;have y3:=hf3 3;have y4:=hf3 4;have y5:=hf3 5;have y6:=hf3 6;have HAD:=sH had;clear hf3;go_wp2;refine bodyPost_ret (v:=.tuple #[.agg #[.int .i64 0,.slice none 0 0,.slice none 0 0,.slice none 0 0,.int .i64 0,.int .i64 0,.int .u64 0],.int .i64 65]) (by simp[results,Tryz.results146,go_sem,m0,m1,m2,m3,m4,m5,m6]) rfl ?_;exact tw9
    rw[decide_eq_false hn];have HX:Hid (V=(lg0,70)):=by unfold Hid;rw[HV.out,if_neg hn]
    clear hn;obtain⟨hf3,hl3⟩:=had.free;have y0:=hf3 0;have y1:=hf3 1;have y2:=hf3 2;have y3:=hf3 3;have y4:=hf3 4;have y5:=hf3 5;have y6:=hf3 6;have HAD:=sH had;clear hf3;go_wp2;refine bodyPost_ret (v:=.tuple #[.agg #[.int .i64 0,.slice none 0 0,.slice none 0 0,.slice none 0 0,.int .i64 0,.int .i64 0,.int .u64 0],.int .i64 70]) (by simp[results,Tryz.results146,go_sem,m0,m1,m2,m3,m4,m5,m6]) rfl ?_;exact tw9
   have hd:decide (x2<n)=false:=decide_eq_false hr;have HX:=sH (HV.out.trans (if_neg hr));have HB4:=sH had.free.2;clear hr;go_wp2_with fail;refine(rZ g _ _ _ acc a n w4 (HG.out.fr FA) HT1.out hof (by omega) (by omega) (fun _=>by rw[HT3.out];rfl) HLK2.out).mono ?_;rintro e w6 ⟨va',vl',vo',rfl,og,F6⟩;clear k0 k1 k2 k3 k4 k5 k6 k8 k9 m0 m1 m2 m3 m4 m5 m6;have had:=had.fr F6;have FB:=FA.pure F6;have HFA:=sH FA;have hsz:=FA.size;generalize dN g acc a n=g' at*
   exact Hy
 have HX:=sH (HV.out.trans (if_pos h0));have hq:(C !=0)=true:=by simp[h0]
 clear h0;obtain⟨⟨k0,k1,k2,k3,k4,k5,k6⟩,⟨k8,k9⟩,m0,m1,m2,m3,m4,m5,m6⟩:=CrK.cells had;obtain⟨hf3,hl3⟩:=had.free;have y0:=hf3 0;have y1:=hf3 1;have y2:=hf3 2;have y3:=hf3 3;have y4:=hf3 4;have y5:=hf3 5;have y6:=hf3 6;have HAD:=sH had;clear hf3;go_wp2;refine bodyPost_ret (v:=.tuple #[.agg #[.int .i64 0,.slice none 0 0,.slice none 0 0,.slice none 0 0,.int .i64 0,.int .i64 0,.int .u64 0],.int .i64 C]) (by simp[results,Tryz.results146,go_sem,m0,m1,m2,m3,m4,m5,m6]) rfl ?_;exact tw9
theorem vZ(g:Lgr)(va vl vo:Value)(acc:Int)(a:Ast)(n:Int)(w:World)(h:LgS w none g va vl vo)(hof:g.offers.length≤1000000):Calls Tryz.prog 145 #[.agg #[.int .i64 g.num,va,vl,vo,.int .i64 g.nid,.int .i64 g.fees,.int .u64 (g.link:Int)],.int .i64 acc,.agg #[.string (bL a.code),.int .i64 a.iss],.int .i64 n] w (Cs (dbt g acc a n) w):=by
 obtain⟨V,hV⟩:∃V,V=dbt g acc a n:=⟨_,rfl⟩;rw[←hV];unfold dbt at hV;have HV:=sH hV;clear hV;obtain⟨A1,c1,rfl, -, -, -⟩:=aN h.1;obtain⟨A2,c2,rfl, -, -, -⟩:=aU h.2.1;obtain⟨A3,c3,rfl, -, -, -⟩:=bA h.2.2.1;have HG:=sH h;clear h;go_enter Tryz.func145,Tryz.ntmps145;go_upto_region 1 with(fail)
 generalize hW:((w.alloc _).alloc _).alloc _=w1;obtain⟨FA,had⟩:Fr none w w1∧CrK w1 w.heap.size g (.slice A1 g.accs.length c1) (.slice A2 g.lines.length c2) (.slice A3 g.offers.length c3) a:=by rw[←hW];exact eS w _ _ _
 clear hW;obtain⟨⟨k0,k1,k2,k3,k4,k5,k6⟩,⟨k8,k9⟩,m0,m1,m2,m3,m4,m5,m6⟩:=CrK.cells had;go_wp2_with fail;refine(vW g _ _ _ acc a n w1 (HG.out.fr FA)).mono ?_;rintro e w2 ⟨rfl,F2⟩;clear k0 k1 k2 k3 k4 k5 k6 k8 k9 m0 m1 m2 m3 m4 m5 m6;have FA:=FA.pure F2;have had:=had.fr F2;clear F2;obtain⟨C,hC⟩:∃C,C=ckT g acc a n:=⟨_,rfl⟩;have HC:=sH hC;rw[←hC] at HV ⊢;clear hC;by_cases h0:C=0
 ·subst h0;have HV:=sH (HV.out.trans (if_neg (by simp)));obtain⟨t1,t2,⟨x,t3⟩,t4,t5⟩:=tH HC.out.symm;have HT1:=sH t1;have HT3:=sH t3;have HT2:=sH t2;clear t1 t2 t3 HC;obtain⟨⟨k0,k1,k2,k3,k4,k5,k6⟩,⟨k8,k9⟩,m0,m1,m2,m3,m4,m5,m6⟩:=CrK.cells had;go_wp2_with fail;refine(mX g _ _ _ acc a w2 (HG.out.fr FA) HT1.out).mono ?_;rintro e w3 ⟨rfl,F3⟩;have HLK:Hid ((bN g acc a).2=true→a≠nat→a.iss≠acc→(bS g.lines acc a).isSome=true):=fun h1 h2 h3=>by
   unfold bN at h1;rw[HT3.out] at h1;simp only[HT2.out,if_neg h2,if_neg h3] at h1;cases e:bS g.lines acc a with
   |none=>rw[e] at h1;simp at h1
   |some l=>rfl
  generalize bN g acc a=R at*
  obtain⟨⟨x1,x2⟩,z⟩:=R;clear k0 k1 k2 k3 k4 k5 k6 k8 k9 m0 m1 m2 m3 m4 m5 m6;have FA:=FA.pure F3;have had:=had.fr F3;clear F3;go_upto_region 5 with(fail)
  generalize hW:w3.alloc _=w4;have F4:Fr none w3 w4:=hW▸(Fr.refl none w3).alloc _;have b7:w4.heap[w3.heap.size]?=some (.cells #[.int .i64 x1,.int .i64 x2] 194 (0,0)):=by rw[←hW];exact aD _ _
  have q0:w4.cell? ⟨w3.heap.size,0,none⟩=some (.int .i64 x1):=by rw[aA b7];rfl
  have q1:w4.cell? ⟨w3.heap.size,1,none⟩=some (.int .i64 x2):=by rw[aA b7];rfl
  have l7:=aC b7;have FA:=FA.pure F4;have had:=had.fr F4;clear hW F4;obtain⟨⟨k0,k1,k2,k3,k4,k5,k6⟩,⟨k8,k9⟩,m0,m1,m2,m3,m4,m5,m6⟩:=CrK.cells had;cases z with
  |false=>
   have HX:=sH (HV.out.trans (if_pos rfl));obtain⟨hf3,hl3⟩:=had.free;have y0:=hf3 0;have y1:=hf3 1;have y2:=hf3 2;have y3:=hf3 3;have y4:=hf3 4;have y5:=hf3 5;have y6:=hf3 6;have HAD:=sH had;clear hf3;go_wp2;refine bodyPost_ret (v:=.tuple #[.agg #[.int .i64 0,.slice none 0 0,.slice none 0 0,.slice none 0 0,.int .i64 0,.int .i64 0,.int .u64 0],.int .i64 70]) (by simp[results,Tryz.results145,go_sem,m0,m1,m2,m3,m4,m5,m6]) rfl ?_;exact tw9
  |true=>
   have HV:=sH (HV.out.trans (if_neg (by simp)));have HLK2:Hid (a≠nat→a.iss≠acc→(bS g.lines acc a).isSome=true):=HLK.out rfl;clear HLK;by_cases hr:x1<n
   ·have hd:decide (x1<n)=true:=decide_eq_true hr;have HX:=sH (HV.out.trans (if_pos hr));clear hr;obtain⟨hf3,hl3⟩:=had.free;have y0:=hf3 0;have y1:=hf3 1;have y2:=hf3 2;have y3:=hf3 3;have y4:=hf3 4;have y5:=hf3 5;have y6:=hf3 6;have HAD:=sH had;clear hf3;go_wp2;refine bodyPost_ret (v:=.tuple #[.agg #[.int .i64 0,.slice none 0 0,.slice none 0 0,.slice none 0 0,.int .i64 0,.int .i64 0,.int .u64 0],.int .i64 66]) (by simp[results,Tryz.results145,go_sem,m0,m1,m2,m3,m4,m5,m6]) rfl ?_;exact tw9
   have hd:decide (x1<n)=false:=decide_eq_false hr;have HX:=sH (HV.out.trans (if_neg hr));have HB4:=sH had.free.2;have hw8:wrap64 (-n)= -n:=fV (by omega) (by omega);clear hr;go_wp2_with fail;refine(rZ g _ _ _ acc a (-n) w4 (HG.out.fr FA) HT1.out hof (by omega) (by omega) (fun _=>by rw[HT3.out];rfl) HLK2.out).mono ?_;rintro e w6 ⟨va',vl',vo',rfl,og,F6⟩;clear k0 k1 k2 k3 k4 k5 k6 k8 k9 m0 m1 m2 m3 m4 m5 m6;have had:=had.fr F6;have FB:=FA.pure F6;have HFA:=sH FA;have hsz:=FA.size;generalize dN g acc a (-n)=g' at*
   exact Hy
 have HX:=sH (HV.out.trans (if_pos h0));have hq:(C !=0)=true:=by simp[h0]
 clear h0;obtain⟨⟨k0,k1,k2,k3,k4,k5,k6⟩,⟨k8,k9⟩,m0,m1,m2,m3,m4,m5,m6⟩:=CrK.cells had;obtain⟨hf3,hl3⟩:=had.free;have y0:=hf3 0;have y1:=hf3 1;have y2:=hf3 2;have y3:=hf3 3;have y4:=hf3 4;have y5:=hf3 5;have y6:=hf3 6;have HAD:=sH had;clear hf3;go_wp2;refine bodyPost_ret (v:=.tuple #[.agg #[.int .i64 0,.slice none 0 0,.slice none 0 0,.slice none 0 0,.int .i64 0,.int .i64 0,.int .u64 0],.int .i64 C]) (by simp[results,Tryz.results145,go_sem,m0,m1,m2,m3,m4,m5,m6]) rfl ?_;exact tw9
end Go.Proofs.YthaggndnfamhjaaGreatDoor
