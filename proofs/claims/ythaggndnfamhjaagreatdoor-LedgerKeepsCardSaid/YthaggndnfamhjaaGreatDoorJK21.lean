/- Texts, joined. -/
import Derived.Test.YthaggndnfamhjaaGreatDoorProg
import Derived.Test.YthaggndnfamhjaaGreatDoorJK18
import Derived.Test.YthaggndnfamhjaaGreatDoorJK20
import Derived.Test.YthaggndnfamhjaaGreatDoorJK15
import Derived.Test.YthaggndnfamhjaaGreatDoorJA

set_option linter.unusedSimpArgs false
set_option linter.unusedVariables false
set_option maxRecDepth 100000
set_option maxHeartbeats 16000000
namespace Go.Proofs.YthaggndnfamhjaaGreatDoor
open Go.RowKit
structure LgX (B:Nat) (w:World) (G:Lgr) (va vl vo:Value):Prop where
 a:SlD w (Dn B w) 3 va (flR aP G.accs)
 l:SlD w (Dn B w) 5 vl (flR lnR G.lines)
 o:SlD w (Dn B w) 9 vo (flR ofR G.offers)
 oa:∀x ∈ G.accs,aP.ok x
 ol:∀x ∈ G.lines,lnR.ok x
 oo:∀x ∈ G.offers,ofR.ok x
 wn:Wi G.num
 wi:Wi G.nid
 wf:Wi G.fees
 wl:G.link<18446744073709551616
theorem LgX.fr{B:Nat}{w w':World}{G:Lgr}{va vl vo:Value}{r:Option Nat}(h:LgX B w G va vl vo)(F:Fr r w w')(hr:∀q,r=some q→q<B:=by simp):LgX B w' G va vl vo:=
 {h with a:=h.a.keep (nD F hr),l:=h.l.keep (nD F hr),o:=h.o.keep (nD F hr)}
theorem LgX.lgs{B:Nat}{w:World}{G:Lgr}{va vl vo:Value}(h:LgX B w G va vl vo)(r:Option Nat)(hr:∀q,r=some q→q<B):LgS w r G va vl vo:=
 ⟨⟨h.a.keep (qL hr),h.oa⟩,⟨h.l.keep (qL hr),h.ol⟩,⟨h.o.keep (qL hr),h.oo⟩,h.wn,h.wi,h.wf,h.wl⟩
def bxv(G:Lgr)(va vl vo:Value):Value:=.agg #[.int .i64 G.num,va,vl,vo,.int .i64 G.nid,.int .i64 G.fees,.int .u64 (G.link:Int)]
def xD(W:World)(g:Nat)(l:List Int)(v:Value):Prop:=∃b,v= .slice (some ⟨b,0,none⟩) l.length l.length∧SlI W (some g) v l
theorem xD.fr{W W':World}{g:Nat}{l:List Int}{v:Value}(h:xD W g l v)(F:Fr (some g) W W'):xD W' g l v:=by
 obtain⟨b,h1,h2⟩:=h;exact⟨b,h1,h2.fr F⟩
def BC(i:Nat)(v:Value):Value:=match v with| .tuple cs=>cs.getD i undef|_=>undef
def GY(k:Nat)(v:Value):Value:=match k with|18=>v|19=>BC 0 v|20=>BC 1 v|24=>BC 1 v|21=>BC 2 v|25=>BC 2 v|_=>undef
def SpJ(g:Nat)(n:Int)(G:Lgr)(va vl vo:Value)(L:Nat→Prop)(W:World)(v:Value):Nat→Prop
 |0=>v=bxv G va vl vo
 |1=>v= .pointer (some ⟨g,0,none⟩)
 |2=>v= .int .i64 n
 |3=>∃x:Int,v= .int .i64 x∧1≤x∧x≤n
 |4=>v= .pointer (some ⟨g,0,none⟩)
 |5=>∃a:Ast,v= .agg #[.string (bL a.code),.int .i64 a.iss]∧(a=nat∨a=usd∨a=eur)
 |6=>v= .pointer (some ⟨g,0,none⟩)
 |7=>∃a:Ast,v= .agg #[.string (bL a.code),.int .i64 a.iss]∧(a=nat∨a=usd∨a=eur)
 |8=>v= .pointer (some ⟨g,0,none⟩)
 |9=>¬L 10→xD W g [1,10,90] v
 |10=>∃x:Int,v= .int .i64 x
 |11=>v= .pointer (some ⟨g,0,none⟩)
 |12=>¬L 13→xD W g [1,2,3,7] v
 |13=>∃x:Int,v= .int .i64 x
 |14=>v= .pointer (some ⟨g,0,none⟩)
 |15=>¬L 16→xD W g [1,2,3,5] v
 |16=>∃x:Int,v= .int .i64 x
 |_=>True
theorem SpJ.fr{g:Nat}{n:Int}{G:Lgr}{va vl vo:Value}{L:Nat→Prop}{W W':World}{v:Value}{i:Nat}(F:Fr (some g) W W'):∀{k:Nat},SpJ g n G va vl vo L W v k→SpJ g n G va vl vo (fun k=>L k∨k=i) W' v k
 |0,h=>h
 |1,h=>h
 |2,h=>h
 |3,h=>h
 |4,h=>h
 |5,h=>h
 |6,h=>h
 |7,h=>h
 |8,h=>h
 |9,h=>fun hn=>(h fun x=>hn (.inl x)).fr F
 |10,h=>h
 |11,h=>h
 |12,h=>fun hn=>(h fun x=>hn (.inl x)).fr F
 |13,h=>h
 |14,h=>h
 |15,h=>fun hn=>(h fun x=>hn (.inl x)).fr F
 |16,h=>h
 |k+17,_=>trivial
def DV(v:Value):Prop:=∃A n c,v= .slice A n c
def DW(wz:World)(G:Lgr)(va vl:Value)(W:World)(nb:Nat→Prop)(v:Value):Prop:=
 ∃(va' vl' vo':Value) (G':Lgr) (id e:Int),v= .tuple #[bxv G' va' vl' vo',.int .i64 id,.int .i64 e]∧(DV va'∧DV vl'∧DV vo')∧
  (e=0→aH G'=0∧G'.accs=G.accs∧G'.lines=G.lines∧G'.num=G.num∧G'.fees=G.fees∧G'.link=G.link∧va'=va∧vl'=vl∧(∀o ∈ G'.offers,ofR.ok o)∧Wi G'.nid∧SlD W (fun q=>(wz.heap.size≤q∧q<W.heap.size)∧nb q) 9 vo' (flR ofR G'.offers))
theorem DW.fr{wz:World}{G:Lgr}{va vl:Value}{W W':World}{nb nb':Nat→Prop}{v:Value}{r:Option Nat}(h:DW wz G va vl W nb v)(F:Fr r W W')(hr:∀q,r=some q→q<wz.heap.size∨¬nb q)(hn:∀q,q<W.heap.size→nb q→nb' q):DW wz G va vl W' nb' v:=by
 obtain⟨va',vl',vo',G',id,e,h1,hsl,h2⟩:=h;refine⟨va',vl',vo',G',id,e,h1,hsl,fun he=>?_⟩;obtain⟨a1,a2,a3,a4,a5,a6,a7,a8,a9,a10,a11⟩:=h2 he;refine⟨a1,a2,a3,a4,a5,a6,a7,a8,a9,a10,a11.keep fun q hq=>⟨⟨⟨hq.1.1,by have:=F.size;omega⟩,hn q hq.1.2 hq.2⟩,F.block q hq.1.2 fun e=>?_⟩⟩;rcases hr q e.symm with h|h
 ·omega
 exact h hq.2
def Io(W:World)(b:Nat)(v:Value):Prop:=∀x0 x1 x2 x3 x4 x5 x6 y z:Value,v= .tuple #[.agg #[x0,x1,x2,x3,x4,x5,x6],y,z]→W.heap[b]?=some (.cells #[x0,x1,x2,x3,x4,x5,x6] 30 (0,0))
def zLg:Obj:=.cells #[.int .i64 0,.slice none 0 0,.slice none 0 0,.slice none 0 0,.int .i64 0,.int .i64 0,.int .u64 0] 30 (0,0)
structure LJ (wz:World) (g:Nat) (n:Int) (G:Lgr) (va vl vo:Value) (L:Nat→Prop) (ys:Nat→Value) (W:World):Prop where
 fr:Fr (some g) wz W
 src:bP 69 W g
 kA:∀k,k<17→L k→SpJ g n G va vl vo L W (ys k) k
 k17:L 17→DW wz G va vl W (fun q=>L 22→∀b,ys 22= .pointer (some ⟨b,0,none⟩)→q≠b) (ys 17)
 kC:∀k,(k=18∨k=19∨k=20∨k=21∨k=24∨k=25)→L k→ys k=GY k (ys 17)
 k22:L 22→∃b,ys 22= .pointer (some ⟨b,0,none⟩)∧wz.heap.size≤b∧b<W.heap.size∧(¬L 23→W.heap[b]?=some zLg)∧(L 23→Io W b (ys 17))
theorem cY{ys:Nat→Value}{i k:Nat}{v:Value}(h:k≠i):cX ys i v k=ys k:=by unfold cX;rw[if_neg h]
theorem pI{ys:Nat→Value}{i:Nat}{v:Value}:cX ys i v i=v:=by unfold cX;rw[if_pos rfl]
theorem LJ.next{wz:World}{g:Nat}{n:Int}{G:Lgr}{va vl vo:Value}{L:Nat→Prop}{ys:Nat→Value}{W W':World}(h:LJ wz g n G va vl vo L ys W)(hg:g<wz.heap.size)(F:Fr (some g) W W')(S:bP 69 W' g){i:Nat}{v:Value}(hL:¬L i)(h17:i≠17)(h22:i≠22)(h23:i≠23)
  (hA:i<17→SpJ g n G va vl vo (fun k=>L k∨k=i) W' v i) (hC:(i=18∨i=19∨i=20∨i=21∨i=24∨i=25)→v=GY i (ys 17)):LJ wz g n G va vl vo (fun k=>L k∨k=i) (cX ys i v) W':=by
 refine⟨h.fr.same F,S,fun k hk hl=>?_,fun hl=>?_,fun k hk hl=>?_,fun hl=>?_⟩
 ·rcases hl with hl|hl
  ·rw[cY (fun e=>by subst e;exact hL hl)];exact(h.kA k hk hl).fr F
  subst hl;rw[pI];exact hA hk
 ·rw[cY (Ne.symm h17)];refine(h.k17 (hl.resolve_right (Ne.symm h17))).fr F (fun q e=>.inl (by injection e with e;omega)) fun q _ hq hl2 b hb=>?_;rw[cY (Ne.symm h22)] at hb;exact hq (hl2.resolve_right (Ne.symm h22)) b hb
 ·rw[cY (k:=17) (Ne.symm h17)];rcases hl with hl|hl
  ·rw[cY (fun e=>by subst e;exact hL hl)];exact h.kC k hk hl
  subst hl;rw[pI];exact hC hk
 obtain⟨b,h1,h2,h3,h4,h5⟩:=h.k22 (hl.resolve_right (Ne.symm h22));have hb:=F.block b h3 (by simp;omega);rw[cY (Ne.symm h22),cY (k:=17) (Ne.symm h17)];refine⟨b,h1,h2,by have:=F.size;omega,fun hn=>?_,fun hy=>?_⟩
 ·rw[hb];exact h4 fun x=>hn (.inl x)
 intro x0 x1 x2 x3 x4 x5 x6 y z e;rw[hb];exact h5 (hy.resolve_right (Ne.symm h23)) x0 x1 x2 x3 x4 x5 x6 y z e
def fQ(n:Nat):Code→Option Code
 | .region k ops fl=>if k=n then some (.region k ops fl) else none
 | .seq a b=>match fQ n a with
  |some c=>some c
  |none=>fQ n b
 | .block _ c=>fQ n c
 | .scope c=>fQ n c
 | .cond _ a b=>match fQ n a with
  |some c=>some c
  |none=>fQ n b
 | .loop c=>fQ n c
 |_=>none
noncomputable def GZ:Code:=((Tryz.f8.body.bind (fQ 20)).getD .skip)
def xE:List (Option Tmp):=[some 86,some 87,some 88,some 89,some 90,some 91,some 92,some 93,some 94,some 95,some 96,some 97,some 98,some 99,some 100,some 101,some 102,some 103,some 85,some 104,some 105,some 106,some 11,none,some 12,some 13]
theorem SpJ.done{g:Nat}{n:Int}{G:Lgr}{va vl vo:Value}{L L':Nat→Prop}{W W':World}{v:Value}(h10:L' 10)(h13:L' 13)(h16:L' 16):∀{k:Nat},SpJ g n G va vl vo L W v k→SpJ g n G va vl vo L' W' v k
 |0,h=>h
 |1,h=>h
 |2,h=>h
 |3,h=>h
 |4,h=>h
 |5,h=>h
 |6,h=>h
 |7,h=>h
 |8,h=>h
 |9,_=>fun hn=>absurd h10 hn
 |10,h=>h
 |11,h=>h
 |12,_=>fun hn=>absurd h13 hn
 |13,h=>h
 |14,h=>h
 |15,_=>fun hn=>absurd h16 hn
 |16,h=>h
 |k+17,_=>trivial
theorem isl{w:World}{D:Nat→Prop}{sz:Nat}{v:Value}{l:List Value}(h:SlD w D sz v l):DV v:=by
 obtain⟨A,n,c,rfl,_⟩:=h;exact⟨A,n,c,rfl⟩
theorem xF{W:World}{g:Nat}{l:List Int}(h:g<W.heap.size)(hl:l.length≤1000)(hw:∀x ∈ l,Wi x):xD (W.alloc (.cells (l.map (Value.int .i64)).toArray 3)) g l (.slice (some ⟨W.heap.size,0,none⟩) l.length l.length):=
 ⟨W.heap.size,rfl,⟨by simpa using SlD.lit_dm (l.map (Value.int .i64)).toArray 3 l.length 1 (by simp) (by unfold maxLen;omega) (by intro q hq;injection hq with hq;omega) (Fr.refl _ _),hw⟩⟩
theorem zY{p:Prop}(h:p:=by
 cases(show some _=some o from ho);have t0:=(evo 0 (by kernel_rfl)).trans e0;refine .inl ⟨_,w,?_,hJ.next hgl (Fr.refl _ _) hJ.src hL (by decide) (by decide) (by decide) (fun _=>rfl) (fun h=>by omega)⟩;go_simp;try with_reducible rfl):p:=h
theorem sY(g bx B:Nat)(n:Int)(G:Lgr)(va vl vo:Value)(wz:World)(Q:Exit→Act→World→Prop)(a0:Act)(hN:111≤a0.tmps.size)(e0:a0.eval (.tmp 0)= .pointer (some ⟨g,0,none⟩))(e3:a0.eval (.tmp 3)= .pointer (some ⟨bx,0,none⟩))(e4:a0.eval (.tmp 4)= .int .i64 n)
  (hg:bP 69 wz g) (hX:LgX B wz G va vl vo) (hgB:g<B) (hb3:wz.heap[bx]?=some (.cells #[.int .i64 G.num,va,vl,vo,.int .i64 G.nid,.int .i64 G.fees,.int .u64 (G.link:Int)] 30 (0,0))) (hn:1≤n∧n≤5) (hgx:g≠bx)
  (hend:∀L ys W,LJ wz g n G va vl vo L ys W→(∀i,i<26→L i)→Q .normal (lA xE 0 ys a0) W):Code.wp Tryz.prog GZ Q a0 wz:=by
 have hgl:=hg.lt
 conv=>arg 2;whnf
 refine nH (LJ wz g n G va vl vo) xE 111 (by kernel_rfl) (by kernel_rfl) (by kernel_rfl) (by kernel_rfl) hN (by kernel_rfl) (by kernel_rfl) (fun ys=>⟨(Fr.refl _ _).drew,hg.fr (Fr.refl _ _).drew,fun k _ h=>h.elim,fun h=>h.elim,fun k _ h=>h.elim,fun h=>h.elim⟩) ?_ hend;clear hend;intro i hi L ys ev w hJ hL hC hdj evc evf evg evt evo o ho;by_cases hi0:i=0
 ·subst hi0;cases(show some _=some o from ho);have hb:=aF hb3 hJ.fr (by simp;omega);have c0:w.cell? ⟨bx,0,none⟩=some (.int .i64 G.num):=by rw[aA hb];rfl
  have c1:w.cell? ⟨bx,1,none⟩=some va:=by rw[aA hb];rfl
  have c2:w.cell? ⟨bx,2,none⟩=some vl:=by rw[aA hb];rfl
  have c3:w.cell? ⟨bx,3,none⟩=some vo:=by rw[aA hb];rfl
  have c4:w.cell? ⟨bx,4,none⟩=some (.int .i64 G.nid):=by rw[aA hb];rfl
  have c5:w.cell? ⟨bx,5,none⟩=some (.int .i64 G.fees):=by rw[aA hb];rfl
  have c6:w.cell? ⟨bx,6,none⟩=some (.int .u64 (G.link:Int)):=by rw[aA hb];rfl
  have t3:=(evo 3 (by kernel_rfl)).trans e3;refine .inl ⟨bxv G va vl vo,w,?_,hJ.next hgl (Fr.refl _ _) hJ.src hL (by decide) (by decide) (by decide) (fun _=>rfl) (fun h=>by omega)⟩;unfold bxv;go_simp;try with_reducible rfl
 by_cases hi1:i=1
 ·subst hi1;exact zY
 by_cases hi2:i=2
 ·subst hi2;cases(show some _=some o from ho);have t4:=(evo 4 (by kernel_rfl)).trans e4;refine .inl ⟨_,w,?_,hJ.next hgl (Fr.refl _ _) hJ.src hL (by decide) (by decide) (by decide) (fun _=>rfl) (fun h=>by omega)⟩;go_simp;try with_reducible rfl
 by_cases hi3:i=3
 ·subst hi3;cases(show some _=some o from ho);have t87:ev (.tmp 87)=_:=(evt 1 87 (by kernel_rfl)).trans (hJ.kA 1 (by omega) (hdj 1 (by kernel_rfl)));have t88:ev (.tmp 88)=_:=(evt 2 88 (by kernel_rfl)).trans (hJ.kA 2 (by omega) (hdj 2 (by kernel_rfl)));refine .inr (.inr ⟨23,#[.pointer (some ⟨g,0,none⟩),.int .i64 1,.int .i64 n],w,?_,?_⟩)
  ·go_simp;try with_reducible rfl
  refine(cA 1 n g w (by omega) (by omega) (by omega) (by omega) hJ.src).mono ?_;rintro e w' ⟨x,rfl,x1,x2,S,F⟩;exact⟨_,rfl,hJ.next hgl F S hL (by decide) (by decide) (by decide) (fun _=>⟨x,rfl,x1,by omega⟩) (fun h=>by omega)⟩
 by_cases hi4:i=4
 ·subst hi4;exact zY
 by_cases hi5:i=5
 ·subst hi5;cases(show some _=some o from ho);have t90:ev (.tmp 90)=_:=(evt 4 90 (by kernel_rfl)).trans (hJ.kA 4 (by omega) (hdj 4 (by kernel_rfl)));refine .inr (.inr ⟨26,#[.pointer (some ⟨g,0,none⟩)],w,?_,?_⟩)
  ·go_simp;try with_reducible rfl
  refine(dX g w hJ.src).mono ?_;rintro e w' ⟨x,rfl,hx,S,F⟩;exact⟨_,rfl,hJ.next hgl F S hL (by decide) (by decide) (by decide) (fun _=>⟨x,rfl,hx⟩) (fun h=>by omega)⟩
 by_cases hi6:i=6
 ·subst hi6;exact zY
 by_cases hi7:i=7
 ·subst hi7;cases(show some _=some o from ho);have t92:ev (.tmp 92)=_:=(evt 6 92 (by kernel_rfl)).trans (hJ.kA 6 (by omega) (hdj 6 (by kernel_rfl)));refine .inr (.inr ⟨26,#[.pointer (some ⟨g,0,none⟩)],w,?_,?_⟩)
  ·go_simp;try with_reducible rfl
  refine(dX g w hJ.src).mono ?_;rintro e w' ⟨x,rfl,hx,S,F⟩;exact⟨_,rfl,hJ.next hgl F S hL (by decide) (by decide) (by decide) (fun _=>⟨x,rfl,hx⟩) (fun h=>by omega)⟩
 by_cases hi8:i=8
 ·subst hi8;exact zY
 by_cases hi9:i=9
 ·subst hi9;cases(show some _=some o from ho);refine .inl ⟨.slice (some ⟨w.heap.size,0,none⟩) 3 3,w.alloc (.cells #[.int .i64 1,.int .i64 10,.int .i64 90] 3),?_,hJ.next hgl ((Fr.refl _ _).alloc _) (hJ.src.fr ((Fr.refl _ _).alloc _)) hL (by decide) (by decide) (by decide) (fun _=>fun _=>xF (l:=[1,10,90]) hJ.src.lt (by simp) (by intro x hx;simp at hx;constructor<;>omega)) (fun h=>by omega)⟩;go_simp;try with_reducible rfl
 by_cases hi10:i=10
 ·subst hi10;cases(show some _=some o from ho);have t94:ev (.tmp 94)=_:=(evt 8 94 (by kernel_rfl)).trans (hJ.kA 8 (by omega) (hdj 8 (by kernel_rfl)));obtain⟨b,hb1,hb2⟩:=(hJ.kA 9 (by omega) (hdj 9 (by kernel_rfl))) hL;have t95:ev (.tmp 95)=_:=(evt 9 95 (by kernel_rfl)).trans hb1;rw[hb1] at hb2;refine .inr (.inr ⟨24,#[.pointer (some ⟨g,0,none⟩),.slice (some ⟨b,0,none⟩) 3 3],w,?_,?_⟩)
  ·go_simp;try with_reducible rfl
  refine(cO _ [1,10,90] g w hb2 (by simp) (by simp) hJ.src).mono ?_;rintro e w' ⟨x,rfl,hx,S,F⟩;exact⟨_,rfl,hJ.next hgl F S hL (by decide) (by decide) (by decide) (fun _=>⟨x,rfl⟩) (fun h=>by omega)⟩
 by_cases hi11:i=11
 ·subst hi11;exact zY
 by_cases hi12:i=12
 ·subst hi12;cases(show some _=some o from ho);refine .inl ⟨.slice (some ⟨w.heap.size,0,none⟩) 4 4,w.alloc (.cells #[.int .i64 1,.int .i64 2,.int .i64 3,.int .i64 7] 3),?_,hJ.next hgl ((Fr.refl _ _).alloc _) (hJ.src.fr ((Fr.refl _ _).alloc _)) hL (by decide) (by decide) (by decide) (fun _=>fun _=>xF (l:=[1,2,3,7]) hJ.src.lt (by simp) (by intro x hx;simp at hx;constructor<;>omega)) (fun h=>by omega)⟩;go_simp;try with_reducible rfl
 by_cases hi13:i=13
 ·subst hi13;cases(show some _=some o from ho);have t97:ev (.tmp 97)=_:=(evt 11 97 (by kernel_rfl)).trans (hJ.kA 11 (by omega) (hdj 11 (by kernel_rfl)));obtain⟨b,hb1,hb2⟩:=(hJ.kA 12 (by omega) (hdj 12 (by kernel_rfl))) hL;have t98:ev (.tmp 98)=_:=(evt 12 98 (by kernel_rfl)).trans hb1;rw[hb1] at hb2;refine .inr (.inr ⟨24,#[.pointer (some ⟨g,0,none⟩),.slice (some ⟨b,0,none⟩) 4 4],w,?_,?_⟩)
  ·go_simp;try with_reducible rfl
  refine(cO _ [1,2,3,7] g w hb2 (by simp) (by simp) hJ.src).mono ?_;rintro e w' ⟨x,rfl,hx,S,F⟩;exact⟨_,rfl,hJ.next hgl F S hL (by decide) (by decide) (by decide) (fun _=>⟨x,rfl⟩) (fun h=>by omega)⟩
 by_cases hi14:i=14
 ·subst hi14;exact zY
 by_cases hi15:i=15
 ·subst hi15;cases(show some _=some o from ho);refine .inl ⟨.slice (some ⟨w.heap.size,0,none⟩) 4 4,w.alloc (.cells #[.int .i64 1,.int .i64 2,.int .i64 3,.int .i64 5] 3),?_,hJ.next hgl ((Fr.refl _ _).alloc _) (hJ.src.fr ((Fr.refl _ _).alloc _)) hL (by decide) (by decide) (by decide) (fun _=>fun _=>xF (l:=[1,2,3,5]) hJ.src.lt (by simp) (by intro x hx;simp at hx;constructor<;>omega)) (fun h=>by omega)⟩;go_simp;try with_reducible rfl
 by_cases hi16:i=16
 ·subst hi16;cases(show some _=some o from ho);have t100:ev (.tmp 100)=_:=(evt 14 100 (by kernel_rfl)).trans (hJ.kA 14 (by omega) (hdj 14 (by kernel_rfl)));obtain⟨b,hb1,hb2⟩:=(hJ.kA 15 (by omega) (hdj 15 (by kernel_rfl))) hL;have t101:ev (.tmp 101)=_:=(evt 15 101 (by kernel_rfl)).trans hb1;rw[hb1] at hb2;refine .inr (.inr ⟨24,#[.pointer (some ⟨g,0,none⟩),.slice (some ⟨b,0,none⟩) 4 4],w,?_,?_⟩)
  ·go_simp;try with_reducible rfl
  refine(cO _ [1,2,3,5] g w hb2 (by simp) (by simp) hJ.src).mono ?_;rintro e w' ⟨x,rfl,hx,S,F⟩;exact⟨_,rfl,hJ.next hgl F S hL (by decide) (by decide) (by decide) (fun _=>⟨x,rfl⟩) (fun h=>by omega)⟩
 by_cases hi17:i=17
 ·subst hi17;cases(show some _=some o from ho);have t86:ev (.tmp 86)=_:=(evt 0 86 (by kernel_rfl)).trans (hJ.kA 0 (by omega) (hdj 0 (by kernel_rfl)));obtain⟨s,hs,s1,s2⟩:=(hJ.kA 3 (by omega) (hdj 3 (by kernel_rfl)));obtain⟨sg,hsg,hsg2⟩:=(hJ.kA 5 (by omega) (hdj 5 (by kernel_rfl)));obtain⟨by_,hby,hby2⟩:=(hJ.kA 7 (by omega) (hdj 7 (by kernel_rfl)));obtain⟨amt,hamt⟩:=(hJ.kA 10 (by omega) (hdj 10 (by kernel_rfl)));obtain⟨nu,hnu⟩:=(hJ.kA 13 (by omega) (hdj 13 (by kernel_rfl)));obtain⟨de,hde⟩:=(hJ.kA 16 (by omega) (hdj 16 (by kernel_rfl)));have t89:ev (.tmp 89)=_:=(evt 3 89 (by kernel_rfl)).trans hs;have t91:ev (.tmp 91)=_:=(evt 5 91 (by kernel_rfl)).trans hsg;have t93:ev (.tmp 93)=_:=(evt 7 93 (by kernel_rfl)).trans hby;have t96:ev (.tmp 96)=_:=(evt 10 96 (by kernel_rfl)).trans hamt;have t99:ev (.tmp 99)=_:=(evt 13 99 (by kernel_rfl)).trans hnu;have t102:ev (.tmp 102)=_:=(evt 16 102 (by kernel_rfl)).trans hde;refine .inr (.inr ⟨25,#[bxv G va vl vo,.int .i64 s,.agg #[.string (bL sg.code),.int .i64 sg.iss],.agg #[.string (bL by_.code),.int .i64 by_.iss],.int .i64 amt,.int .i64 nu,.int .i64 de],w,?_,?_⟩)
  ·clear hsg2 hby2;go_simp;try with_reducible rfl
  have hXw:=hX.fr hJ.fr (by intro q hq;injection hq with hq;omega);refine(BA G va vl vo s sg by_ amt nu de w (hXw.lgs none (by simp)) ⟨by constructor<;>omega,qB.wi hsg2,qB.wi hby2⟩).mono ?_;rintro e w' ⟨va',vl',vo',G',id,rfl,hS,h0,h1,F⟩;have hn18:¬L 18:=fun h=>hL (hC 18 17 (by kernel_rfl) h);have hn23:¬L 23:=fun h=>hL (hC 23 17 (by kernel_rfl) h);refine⟨_,rfl,hJ.fr.pure F,hJ.src.fr F,fun k hk hl=>?_,fun _=>?_,fun k hk hl=>?_,fun hl=>?_⟩
  ·rw[cY (by omega)];exact(hJ.kA k hk (hl.resolve_right (by omega))).fr F.mono
  ·rw[pI];refine⟨va',vl',vo',G',id,_,rfl,⟨isl hS.1.1,isl hS.2.1.1,isl hS.2.2.1.1⟩,fun he=>?_⟩;obtain⟨r1,r2,r3,r4,r5⟩:=h0 he;subst r1;refine⟨yH he,rfl,rfl,rfl,rfl,rfl,r3,r4,hS.2.2.1.2,hS.2.2.2.2.1,r5.keep fun q hq=>⟨⟨⟨by have:=hJ.fr.size;have:=hq.1;omega,hq.2⟩,fun hl b hb=>?_⟩,rfl⟩⟩;rw[cY (by decide)] at hb;obtain⟨b',h1',_,h3',_⟩:=hJ.k22 (hl.resolve_right (by decide));rw[h1'] at hb;injection hb with hb
   injection hb with hb
   injection hb with hb
   have:=hq.1;omega
  ·exfalso;have hl:=hl.resolve_right (by omega);rcases hk with rfl|rfl|rfl|rfl|rfl|rfl
   ·exact hn18 hl
   ·exact hn18 (hC 19 18 (by kernel_rfl) hl)
   ·exact hn18 (hC 20 18 (by kernel_rfl) hl)
   ·exact hn18 (hC 21 18 (by kernel_rfl) hl)
   ·exact hn18 (hC 20 18 (by kernel_rfl) (hC 24 20 (by kernel_rfl) hl))
   exact hn18 (hC 21 18 (by kernel_rfl) (hC 25 21 (by kernel_rfl) hl))
  obtain⟨b,h1',h2',h3',h4',_⟩:=hJ.k22 (hl.resolve_right (by decide));refine⟨b,by rw[cY (by decide)];exact h1',h2',by have:=F.size;omega,fun _=>?_,fun h=>absurd (h.resolve_right (by decide)) hn23⟩;rw[F.block b h3' (by simp)];exact h4' hn23
 by_cases hi18:i=18
 ·subst hi18;cases(show some _=some o from ho);obtain⟨va2,vl2,vo2,G2,id,e,h17,_⟩:=hJ.k17 (hdj 17 (by kernel_rfl));have t103:ev (.tmp 103)=_:=(evt 17 103 (by kernel_rfl)).trans h17;refine .inl ⟨.tuple #[bxv G2 va2 vl2 vo2,.int .i64 id,.int .i64 e],w,?_,hJ.next hgl (Fr.refl _ _) hJ.src hL (by decide) (by decide) (by decide) (fun h=>by omega) (fun _=>by rw[h17];rfl)⟩;go_simp;try with_reducible rfl
 by_cases hi19:i=19
 ·subst hi19;cases(show some _=some o from ho);obtain⟨va2,vl2,vo2,G2,id,e,h17,_⟩:=hJ.k17 (hC 18 17 (by kernel_rfl) (hdj 18 (by kernel_rfl)));have t85:ev (.tmp 85)= .tuple #[bxv G2 va2 vl2 vo2,.int .i64 id,.int .i64 e]:=(evt 18 85 (by kernel_rfl)).trans ((hJ.kC 18 (by decide) (hdj 18 (by kernel_rfl))).trans (by rw[h17];rfl));refine .inl ⟨bxv G2 va2 vl2 vo2,w,?_,hJ.next hgl (Fr.refl _ _) hJ.src hL (by decide) (by decide) (by decide) (fun h=>by omega) (fun _=>by rw[h17];rfl)⟩;go_simp;try with_reducible rfl
 by_cases hi20:i=20
 ·subst hi20;cases(show some _=some o from ho);obtain⟨va2,vl2,vo2,G2,id,e,h17,_⟩:=hJ.k17 (hC 18 17 (by kernel_rfl) (hdj 18 (by kernel_rfl)));have t85:ev (.tmp 85)= .tuple #[bxv G2 va2 vl2 vo2,.int .i64 id,.int .i64 e]:=(evt 18 85 (by kernel_rfl)).trans ((hJ.kC 18 (by decide) (hdj 18 (by kernel_rfl))).trans (by rw[h17];rfl));refine .inl ⟨.int .i64 id,w,?_,hJ.next hgl (Fr.refl _ _) hJ.src hL (by decide) (by decide) (by decide) (fun h=>by omega) (fun _=>by rw[h17];rfl)⟩;go_simp;try with_reducible rfl
 by_cases hi21:i=21
 ·subst hi21;cases(show some _=some o from ho);obtain⟨va2,vl2,vo2,G2,id,e,h17,_⟩:=hJ.k17 (hC 18 17 (by kernel_rfl) (hdj 18 (by kernel_rfl)));have t85:ev (.tmp 85)= .tuple #[bxv G2 va2 vl2 vo2,.int .i64 id,.int .i64 e]:=(evt 18 85 (by kernel_rfl)).trans ((hJ.kC 18 (by decide) (hdj 18 (by kernel_rfl))).trans (by rw[h17];rfl));refine .inl ⟨.int .i64 e,w,?_,hJ.next hgl (Fr.refl _ _) hJ.src hL (by decide) (by decide) (by decide) (fun h=>by omega) (fun _=>by rw[h17];rfl)⟩;go_simp;try with_reducible rfl
 by_cases hi22:i=22
 ·subst hi22;cases(show some _=some o from ho);have F:=(Fr.refl none w).alloc zLg;have hz:(w.alloc zLg).heap.size=w.heap.size+1:=by simp
  refine .inl ⟨.pointer (some ⟨w.heap.size,0,none⟩),w.alloc zLg,?_,?_⟩
  ·unfold zLg;go_simp;try with_reducible rfl
  refine⟨hJ.fr.pure F,hJ.src.fr F,fun k hk hl=>?_,fun hl=>?_,fun k hk hl=>?_,fun hl=>?_⟩
  ·rw[cY (by omega)];exact(hJ.kA k hk (hl.resolve_right (by omega))).fr F.mono
  ·rw[cY (k:=17) (by decide)];refine(hJ.k17 (hl.resolve_right (by decide))).fr F (by simp) fun q hq _ _ b hb=>?_;simp only[pI] at hb;injection hb with hb
   injection hb with hb
   injection hb with hb
   omega
  ·rw[cY (by omega),cY (k:=17) (by decide)];exact hJ.kC k hk (hl.resolve_right (by omega))
  exact⟨w.heap.size,pI,hJ.fr.size,by omega,fun _=>aD _ _,fun h=>absurd (hC 23 22 (by kernel_rfl) (h.resolve_right (by decide))) hL⟩
 by_cases hi23:i=23
 ·subst hi23;cases(show some _=some o from ho);obtain⟨b,hb1,hb2,hb3',hb4,_⟩:=hJ.k22 (hdj 22 (by kernel_rfl));have hb4:=hb4 hL;unfold zLg at hb4;obtain⟨va2,vl2,vo2,G2,id,e,h17,⟨⟨A7,n7,c7,rfl⟩,⟨A8,n8,c8,rfl⟩,⟨A9,n9,c9,rfl⟩⟩,h17b⟩:=hJ.k17 (hdj 17 (by kernel_rfl));have t11:ev (.tmp 11)=_:=(evt 22 11 (by kernel_rfl)).trans hb1;have t104:ev (.tmp 104)=bxv G2 (.slice A7 n7 c7) (.slice A8 n8 c8) (.slice A9 n9 c9):=(evt 19 104 (by kernel_rfl)).trans ((hJ.kC 19 (by decide) (hdj 19 (by kernel_rfl))).trans (by rw[h17];rfl));unfold bxv at t104;have r0:w.cell? ⟨b,0,none⟩=some (.int .i64 0):=by rw[aA hb4];rfl
  have r1:w.cell? ⟨b,1,none⟩=some (.slice none 0 0):=by rw[aA hb4];rfl
  have r2:w.cell? ⟨b,2,none⟩=some (.slice none 0 0):=by rw[aA hb4];rfl
  have r3:w.cell? ⟨b,3,none⟩=some (.slice none 0 0):=by rw[aA hb4];rfl
  have r4:w.cell? ⟨b,4,none⟩=some (.int .i64 0):=by rw[aA hb4];rfl
  have r5:w.cell? ⟨b,5,none⟩=some (.int .i64 0):=by rw[aA hb4];rfl
  have r6:w.cell? ⟨b,6,none⟩=some (.int .u64 0):=by rw[aA hb4];rfl
  have f0:=aB hb4 0;have f1:=aB hb4 1;have f2:=aB hb4 2;have f3:=aB hb4 3;have f4:=aB hb4 4;have f5:=aB hb4 5;have f6:=aB hb4 6;have hbl:=aC hb4;have H17:=sH h17;have H17b:=sH h17b;have H1:=sH hb1;have H4:=sH hb4;clear h17 h17b hb1 hb4;refine .inr (.inl ⟨((((((w.setCell ⟨b,0,none⟩ (.int .i64 G2.num)).setCell ⟨b,1,none⟩ (.slice A7 n7 c7)).setCell ⟨b,2,none⟩ (.slice A8 n8 c8)).setCell ⟨b,3,none⟩ (.slice A9 n9 c9)).setCell ⟨b,4,none⟩ (.int .i64 G2.nid)).setCell ⟨b,5,none⟩ (.int .i64 G2.fees)).setCell ⟨b,6,none⟩ (.int .u64 (G2.link:Int)),?_,?_⟩)
  ·go_simp;try with_reducible rfl
  clear r0 r1 r2 r3 r4 r5 r6 f0 f1 f2 f3 f4 f5 f6 t11 t104;have hs:=aI (aI (aI (aI (aI (aI (aI H4.out 0 (.int .i64 G2.num)) 1 (.slice A7 n7 c7)) 2 (.slice A8 n8 c8)) 3 (.slice A9 n9 c9)) 4 (.int .i64 G2.nid)) 5 (.int .i64 G2.fees)) 6 (.int .u64 (G2.link:Int));simp only[List.setIfInBounds_toArray,List.set_cons_zero,List.set_cons_succ] at hs;have F:Fr (some b) w _:=((((((Fr.set1 w ⟨b,0,none⟩ (.int .i64 G2.num)).same (Fr.set1 _ ⟨b,1,none⟩ (.slice A7 n7 c7))).same (Fr.set1 _ ⟨b,2,none⟩ (.slice A8 n8 c8))).same (Fr.set1 _ ⟨b,3,none⟩ (.slice A9 n9 c9))).same (Fr.set1 _ ⟨b,4,none⟩ (.int .i64 G2.nid))).same (Fr.set1 _ ⟨b,5,none⟩ (.int .i64 G2.fees))).same (Fr.set1 _ ⟨b,6,none⟩ (.int .u64 (G2.link:Int)));generalize World.setCell _ _ _=W at hs F ⊢;refine⟨hJ.fr.own F (fun q e=>by injection e with e;omega),hJ.src.frs F (fun q e=>by injection e with e;omega),fun k hk hl=>?_,fun hl=>?_,fun k hk hl=>?_,fun hl=>?_⟩
  ·rw[cY (by omega)];exact(hJ.kA k hk (hl.resolve_right (by omega)))|> SpJ.done (.inl (hdj 10 (by kernel_rfl))) (.inl (hdj 13 (by kernel_rfl))) (.inl (hdj 16 (by kernel_rfl)))
  ·rw[cY (k:=17) (by decide)];refine(hJ.k17 (hl.resolve_right (by decide))).fr F (fun q e=>.inr fun h=>h (hdj 22 (by kernel_rfl)) b H1.out (by injection e with e;exact e.symm)) fun q _ hq hl2 b2 hb2=>?_;have hb2:cX ys 23 undef 22= .pointer (some ⟨b2,0,none⟩):=hb2;rw[cY (by decide)] at hb2;exact hq (hl2.resolve_right (by decide)) b2 hb2
  ·rw[cY (by omega),cY (k:=17) (by decide)];exact hJ.kC k hk (hl.resolve_right (by omega))
  refine⟨b,by rw[cY (by decide)];exact H1.out,hb2,by have:=F.size;omega,fun h=>absurd (.inr rfl) h,fun _=>?_⟩;rw[cY (by decide)];intro x0 x1 x2 x3 x4 x5 x6 y z e;rw[H17.out] at e;unfold bxv at e;simp only[Value.tuple.injEq,Array.mk.injEq,List.cons.injEq,Value.agg.injEq,List.toArray_inj,and_true] at e;obtain⟨⟨e0,e1,e2,e3,e4,e5,e6⟩,_⟩:=e;rw[hs,e0,e1,e2,e3,e4,e5,e6]
 by_cases hi24:i=24
 ·subst hi24;cases(show some _=some o from ho);obtain⟨va2,vl2,vo2,G2,id,e,h17,_⟩:=hJ.k17 (hC 18 17 (by kernel_rfl) (hC 20 18 (by kernel_rfl) (hdj 20 (by kernel_rfl))));have t105:ev (.tmp 105)= .int .i64 id:=(evt 20 105 (by kernel_rfl)).trans ((hJ.kC 20 (by decide) (hdj 20 (by kernel_rfl))).trans (by rw[h17];rfl));refine .inl ⟨.int .i64 id,w,?_,hJ.next hgl (Fr.refl _ _) hJ.src hL (by decide) (by decide) (by decide) (fun h=>by omega) (fun _=>by rw[h17];rfl)⟩;go_simp;try with_reducible rfl
 by_cases hi25:i=25
 ·subst hi25;cases(show some _=some o from ho);obtain⟨va2,vl2,vo2,G2,id,e,h17,_⟩:=hJ.k17 (hC 18 17 (by kernel_rfl) (hC 21 18 (by kernel_rfl) (hdj 21 (by kernel_rfl))));have t106:ev (.tmp 106)= .int .i64 e:=(evt 21 106 (by kernel_rfl)).trans ((hJ.kC 21 (by decide) (hdj 21 (by kernel_rfl))).trans (by rw[h17];rfl));refine .inl ⟨.int .i64 e,w,?_,hJ.next hgl (Fr.refl _ _) hJ.src hL (by decide) (by decide) (by decide) (fun h=>by omega) (fun _=>by rw[h17];rfl)⟩;go_simp;try with_reducible rfl
 exact absurd (show i<26 from hi) (by omega)
end Go.Proofs.YthaggndnfamhjaaGreatDoor
