/- Texts, joined. -/
import Derived.WalkKit
import Derived.WalkSpells
import Derived.WalkLawsBesides
import Derived.Lib.Hide
import Derived.Maps.AppendAt
import Derived.Deep.AppendLies
import Derived.Deep.Draws
import Derived.Deep.LoopGhost
import Derived.BigQuiet
import Derived.Deep.QuietTactic

set_option linter.unusedSimpArgs false
set_option linter.unusedVariables false
set_option maxRecDepth 100000
set_option maxHeartbeats 16000000
namespace Go.Proofs.YthaggndnfamhjaaGreatDoor
open Go.RowKit
def Fr(r:Option Nat)(w w':World):Prop:=w.grownBy w' r
theorem Fr.refl(r:Option Nat)(w:World):Fr r w w:=World.grownBy.refl w r
theorem Fr.size{r:Option Nat}{w w':World}(h:Fr r w w'):w.heap.size≤w'.heap.size:=World.grownBy.size h
theorem Fr.block{r:Option Nat}{w w':World}(h:Fr r w w')(k:Nat)(hk:k<w.heap.size)(hr:some k≠r):w'.heap[k]?=w.heap[k]?:=World.grownBy.block h k hk hr
theorem Fr.trans{r r':Option Nat}{a b c:World}(h:Fr r a b)(k:Fr r' b c)(hr:∀g,r'=some g→g<a.heap.size→r=some g):Fr r a c:=
 ⟨(World.grownBy.os k).trans (World.grownBy.os h),(World.grownBy.tape k).trans (World.grownBy.tape h),(World.grownBy.output k).trans (World.grownBy.output h),Nat.le_trans h.size k.size,fun i hi hne=>
  (k.block i (Nat.lt_of_lt_of_le hi h.size) (fun e=>hne ((hr i e.symm hi).symm))).trans (h.block i hi hne)⟩
theorem Fr.pure{r:Option Nat}{a b c:World}(h:Fr r a b)(k:Fr none b c):Fr r a c:=h.trans k (fun _ h=>by cases h)
theorem Fr.same{r:Option Nat}{a b c:World}(h:Fr r a b)(k:Fr r b c):Fr r a c:=h.trans k (fun _ h _=>h)
theorem Fr.new{r:Option Nat}{a b c:World}{g:Nat}(h:Fr r a b)(k:Fr (some g) b c)(hg:a.heap.size≤g):Fr r a c:=h.trans k (fun x e hx=>by injection e with e;omega)
theorem Fr.own{r r':Option Nat}{a b c:World}(h:Fr r a b)(k:Fr r' b c)(hg:∀g,r'=some g→a.heap.size≤g:=by simp):Fr r a c:=h.trans k (fun x e hx=>by have:=hg x e;omega)
theorem Fr.mono{r:Option Nat}{a b:World}(h:Fr none a b):Fr r a b:=(Fr.refl r a).pure h
theorem Fr.alloc{r:Option Nat}{a b:World}(h:Fr r a b)(o:Obj):Fr r a (b.alloc o):=h.pure (World.grownBy_alloc b o none)
theorem Fr.drew{r:Option Nat}{a b:World}(h:Fr r a b):Fr r a b.drew:=⟨World.grownBy.os (w':=b) h,World.grownBy.tape (w':=b) h,World.grownBy.output (w':=b) h,h.size,h.block⟩
theorem Fr.drewN{r:Option Nat}{a b:World}(h:Fr r a b)(n:Nat):Fr r a (b.drewN n):=⟨World.grownBy.os (w':=b) h,World.grownBy.tape (w':=b) h,World.grownBy.output (w':=b) h,h.size,h.block⟩
theorem Fr.set1(w:World)(p:Addr)(u:Value):Fr (some p.block) w (w.setCell p u):=
 ⟨rfl,rfl,rfl,by simp[World.setCell],fun k hk hne=>Below.heap_setCell w p u k (fun e=>hne (by rw[e]))⟩
theorem Fr.setRow{a b:World}{g:Nat}(h:Fr (some g) a b){p:Addr}(hp:p.block=g)(u:Value):Fr (some g) a (b.setCell p u):=h.same (hp▸Fr.set1 b p u)
theorem Fr.cell{r:Option Nat}{w w':World}(h:Fr r w w'){p:Addr}(hp:p.block<w.heap.size)(hr:some p.block≠r):w'.cell? p=w.cell? p:=World.cell?_of_block (h.block _ hp hr)
theorem Fr.below{w w':World}(h:Fr none w w'):Below w.heap.size w w':=⟨World.grownBy.os h,World.grownBy.tape h,World.grownBy.output h,h.size,fun k hk=>h.block k hk (by simp)⟩
theorem Fr.of_below{w w':World}(h:Below w.heap.size w w'):Fr none w w':=⟨h.os,h.tape,h.output,h.size,fun k hk _=>h.block k hk⟩
theorem Fr.keep{r:Option Nat}{w w':World}(h:Fr r w w'){p:Addr}{u:Value}(hc:w.cell? p=some u)(hr:some p.block≠r:=by simp):w'.cell? p=some u:=by
 rw[h.cell _ hr];exact hc;unfold World.cell? at hc;rcases Nat.lt_or_ge p.block w.heap.size with h|h
 ·exact h
 rw[Array.getElem?_eq_none h] at hc;cases hc
def Dm(w:World)(r:Option Nat):Nat→Prop:=fun k=>k<w.heap.size∧some k≠r
theorem Dm.up{r:Option Nat}{w w':World}(h:w.heap.size≤w'.heap.size){k:Nat}(hk:Dm w r k):Dm w' r k:=⟨Nat.lt_of_lt_of_le hk.1 h,hk.2⟩
def SlD(w:World)(D:Nat→Prop)(size:Nat)(v:Value)(xs:List Value):Prop:=
 ∃A n c,v= .slice A n c∧xs.length=n*size∧n≤c∧c≤maxLen∧
  (0<n→∃b off,A=some ⟨b,off,none⟩∧D b∧∀j u,xs[j]?=some u→w.cell? ⟨b,off+j,none⟩=some u)
theorem SlD.nil(w:World)(D:Nat→Prop)(size:Nat):SlD w D size (.slice none 0 0) []:=⟨none,0,0,rfl,by simp,by omega,by unfold maxLen;omega,by omega⟩
theorem SlD.keep{w w':World}{D D':Nat→Prop}{size:Nat}{v:Value}{xs:List Value}(h:SlD w D size v xs)(hD:∀k,D k→D' k∧w'.heap[k]?=w.heap[k]?):SlD w' D' size v xs:=by
 obtain⟨A,n,c,rfl,hl,hc,hm,hx⟩:=h;refine⟨A,n,c,rfl,hl,hc,hm,fun hn=>?_⟩;obtain⟨b,off,rfl,hb,hx⟩:=hx hn;exact⟨b,off,rfl,(hD b hb).1,fun j u hu=>(World.cell?_of_block (hD b hb).2).trans (hx j u hu)⟩
def Wi(n:Int):Prop:= -9223372036854775808≤n∧n≤9223372036854775807
def SlI(w:World)(r:Option Nat)(v:Value)(l:List Int):Prop:=SlD w (Dm w r) 1 v (l.map (Value.int .i64))∧(∀n ∈ l,Wi n)
theorem SlD.cellI{w:World}{D:Nat→Prop}{A:Option Addr}{n c:Nat}{l:List Int}(h:SlD w D 1 (.slice A n c) (l.map (Value.int .i64)))(k:Nat)(hk:k<l.length):
  ∃b off,A=some ⟨b,off,none⟩∧D b∧w.cell? ⟨b,off+k,none⟩=some (.int .i64 l[k]):=by
 obtain⟨A',n',c',e,hl,_,_,hx⟩:=h;injection e with e1 e2 e3
 subst e1 e2 e3;have hn:n=l.length:=by simpa using hl.symm
 obtain⟨b,off,rfl,hb,hx⟩:=hx (by omega);exact⟨b,off,rfl,hb,hx k _ (by simp[hk])⟩
theorem xZ{r:Option Nat}{w w':World}(h:Fr r w w'):∀k,Dm w r k→Dm w' r k∧w'.heap[k]?=w.heap[k]?:=fun k hk=>⟨hk.up h.size,h.block k hk.1 hk.2⟩
theorem nT{r:Option Nat}{w:World}:∀k,Dm w r k→Dm w none k∧w.heap[k]?=w.heap[k]?:=fun k hk=>⟨⟨hk.1,by simp⟩,rfl⟩
theorem uE{w w':World}{g:Nat}(h:Fr none w w')(hg:w.heap.size≤g):∀k,Dm w none k→Dm w' (some g) k∧w'.heap[k]?=w.heap[k]?:=
 fun k hk=>⟨⟨Nat.lt_of_lt_of_le hk.1 h.size,by have:=hk.1;simp;omega⟩,h.block k hk.1 (by simp)⟩
theorem SlI.fresh{w w':World}{g:Nat}{v:Value}{l:List Int}(h:SlI w none v l)(f:Fr none w w')(hg:w.heap.size≤g):SlI w' (some g) v l:=⟨h.1.keep (uE f hg),h.2⟩
theorem SlI.fr{r:Option Nat}{w w':World}{v:Value}{l:List Int}(h:SlI w r v l)(f:Fr r w w'):SlI w' r v l:=⟨h.1.keep (xZ f),h.2⟩
theorem SlI.weak{r:Option Nat}{w:World}{v:Value}{l:List Int}(h:SlI w r v l):SlI w none v l:=⟨h.1.keep nT,h.2⟩
theorem SlI.nil(w:World)(r:Option Nat):SlI w r (.slice none 0 0) []:=⟨SlD.nil _ _ _,by simp⟩
theorem SlI.open_{r:Option Nat}{w:World}{v:Value}{l:List Int}(h:SlI w r v l):
  ∃A c,v= .slice A l.length c∧l.length≤c∧c≤9223372036854775807∧(0<l.length→∃b off,A=some ⟨b,off,none⟩∧b<w.heap.size∧some b≠r∧∀k (hk:k<l.length),w.cell? ⟨b,off+k,none⟩=some (.int .i64 l[k])):=by
 obtain⟨⟨A,n,c,rfl,hl,hc,hm,hx⟩,_⟩:=h;unfold maxLen at hm;have e:n=l.length:=by simpa using hl.symm
 subst e;refine⟨A,c,rfl,hc,hm,fun hn=>?_⟩;obtain⟨b,off,rfl,hb,hx⟩:=hx hn;exact⟨b,off,rfl,hb.1,hb.2,fun k hk=>hx k _ (by simp[hk])⟩
theorem SlD.take{w:World}{D:Nat→Prop}{size:Nat}{A:Option Addr}{n c:Nat}{xs:List Value}(h:SlD w D size (.slice A n c) xs)(m:Nat)(hm:m≤n):SlD w D size (.slice A m c) (xs.take (m*size)):=by
 obtain⟨A',n',c',e,hl,hc,hmx,hx⟩:=h;injection e with e1 e2 e3
 subst e1 e2 e3;refine⟨A,m,c,rfl,?_,by omega,hmx,fun hp=>?_⟩
 ·rw[List.length_take,hl];exact Nat.min_eq_left (Nat.mul_le_mul_right _ hm)
 obtain⟨b,off,rfl,hb,hx⟩:=hx (by omega);refine⟨b,off,rfl,hb,fun j u hu=>hx j u ?_⟩;rw[List.getElem?_take] at hu;split at hu
 ·exact hu
 cases hu
theorem SlI.take{w:World}{r:Option Nat}{A:Option Addr}{n c:Nat}{l:List Int}(h:SlI w r (.slice A n c) l)(m:Nat)(hm:m≤n):SlI w r (.slice A m c) (l.take m):=
 ⟨by simpa using h.1.take m hm,fun x hx=>h.2 x (List.mem_of_mem_take hx)⟩
theorem SlD.of_own{w:World}{base:Nat}{e:TypeId}{size:Nat}{v:Value}{n:Nat}{xs:List Value}{r:Option Nat}(h:w.ownsRow base e size v n xs)(hr:∀g,r=some g→g<base):
  SlD w (Dm w r) size v xs:=by
 obtain⟨hl,h2⟩:=h;have h0:w.ownsRow base e size v n xs:=⟨hl,h2⟩;rcases h2 with⟨rfl,rfl⟩|⟨g,cap,cur,rfl,hg,hh,hnc,hm,hs,ht⟩
 ·exact⟨none,0,0,rfl,hl,by omega,by unfold maxLen;omega,by omega⟩
 refine⟨_,n,cap,rfl,hl,hnc,hm,fun hn=>⟨g,0,rfl,⟨(h0.lt g rfl).2,fun e=>?_⟩,fun j u hu=>?_⟩⟩
 ·have:=hr g e.symm;omega
 have:=h0.cells (g:=g) rfl j u hu;rw[Addr.add_lit] at this;exact this
theorem SlI.of_own{w:World}{base:Nat}{e:TypeId}{v:Value}{n:Nat}{l:List Int}{r:Option Nat}(h:w.ownsRow base e 1 v n (l.map (Value.int .i64)))(hr:∀g,r=some g→g<base)(hw:∀n ∈ l,Wi n):SlI w r v l:=
 ⟨SlD.of_own h hr,hw⟩
theorem dS(w:World)(cs:Array Value)(t:TypeId)(i:Nat):(w.alloc (.cells cs t)).cell? ⟨w.heap.size,i,none⟩=cs[i]?:=World.cell?_alloc_new _ _ _ _
def FQ(y:Nat):Value:=.int .u64 y
def SlU(w:World)(r:Option Nat)(v:Value)(l:List Nat):Prop:=SlD w (Dm w r) 1 v (l.map FQ)∧(∀y ∈ l,y<18446744073709551616)
theorem SlU.fr{r:Option Nat}{w w':World}{v:Value}{l:List Nat}(h:SlU w r v l)(f:Fr r w w'):SlU w' r v l:=⟨h.1.keep (xZ f),h.2⟩
theorem SlU.weak{r:Option Nat}{w:World}{v:Value}{l:List Nat}(h:SlU w r v l):SlU w none v l:=⟨h.1.keep nT,h.2⟩
theorem SlU.open_{r:Option Nat}{w:World}{v:Value}{l:List Nat}(h:SlU w r v l):
  ∃A c,v= .slice A l.length c∧l.length≤c∧c≤9223372036854775807∧(0<l.length→∃b off,A=some ⟨b,off,none⟩∧b<w.heap.size∧some b≠r∧∀k,k<l.length→w.cell? ⟨b,off+k,none⟩=some (.int .u64 ((l.getD k 0:Nat):Int))):=by
 obtain⟨⟨A,n,c,rfl,hl,hc,hm,hx⟩,_⟩:=h;unfold maxLen at hm;have e:n=l.length:=by simpa using hl.symm
 subst e;refine⟨A,c,rfl,hc,hm,fun hn=>?_⟩;obtain⟨b,off,rfl,hb,hx⟩:=hx hn;exact⟨b,off,rfl,hb.1,hb.2,fun k hk=>hx k _ (by simp[hk,FQ])⟩
theorem SlU.of_own{w:World}{base:Nat}{e:TypeId}{v:Value}{n:Nat}{l:List Nat}{r:Option Nat}(h:w.ownsRow base e 1 v n (l.map FQ))(hr:∀g,r=some g→g<base)(hw:∀y ∈ l,y<18446744073709551616):SlU w r v l:=
 ⟨SlD.of_own h hr,hw⟩
theorem i64_bd{n:Int}(h:(Lit.int .i64 n).wf=true):Wi n:=by
 simp only[Lit.wf,Bool.and_eq_true,decide_eq_true_eq] at h;exact h
theorem aM{k:IntKind}{a b:Int}(h:a=b):Ending.returned (.int k a)= .returned (.int k b):=by rw[h]
theorem aJ{a b:Bool}(h:a=b):Ending.returned (.bool a)= .returned (.bool b):=by rw[h]
inductive Tr where
 |mk (thr:Int) (nodes:List Int) (inner:List Tr)
mutual
def Tr.size:Tr→Nat
 | .mk _ nodes inner=>nodes.length+inner.length+Fv inner
def Fv:List Tr→Nat
 |[]=>0
 |x::r=>x.size+Fv r
end
def Few(n:Nat):Prop:=n≤1073741824
mutual
def TrD(w:World)(D:Nat→Prop):Value→Tr→Prop
 |v,.mk thr nodes inner=>∃vn vi cells,v= .agg #[.int .i64 thr,vn,vi]∧Wi thr∧SlD w D 1 vn (nodes.map (Value.int .i64))∧(∀n ∈ nodes,Wi n)∧SlD w D 3 vi cells∧
   Few nodes.length∧Few inner.length∧eN w D cells inner
def eN(w:World)(D:Nat→Prop):List Value→List Tr→Prop
 |cells,[]=>cells=[]
 |cells,x::r=>∃a b c rest,cells=a::b::c::rest∧TrD w D (.agg #[a,b,c]) x∧eN w D rest r
end
mutual
theorem TrD.keep{w w':World}{D D':Nat→Prop}(hD:∀k,D k→D' k∧w'.heap[k]?=w.heap[k]?):∀(t:Tr) (v:Value),TrD w D v t→TrD w' D' v t
 | .mk thr nodes inner,v,h=>by
  simp only[TrD] at h ⊢;obtain⟨vn,vi,cells,e,h0,h1,h2,h3,h4,h5,h6⟩:=h;exact⟨vn,vi,cells,e,h0,h1.keep hD,h2,h3.keep hD,h4,h5,eN.keep hD inner cells h6⟩
theorem eN.keep{w w':World}{D D':Nat→Prop}(hD:∀k,D k→D' k∧w'.heap[k]?=w.heap[k]?):∀(l:List Tr) (cells:List Value),eN w D cells l→eN w' D' cells l
 |[],cells,h=>by simp only[eN] at h ⊢;exact h
 |x::r,cells,h=>by
  simp only[eN] at h ⊢;obtain⟨a,b,c,rest,e,h1,h2⟩:=h;exact⟨a,b,c,rest,e,TrD.keep hD x _ h1,eN.keep hD r rest h2⟩
end
theorem eN.len{w:World}{D:Nat→Prop}:∀{l:List Tr} {cells:List Value},eN w D cells l→cells.length=l.length*3
 |[],cells,h=>by simp only[eN] at h;simp[h]
 |x::r,cells,h=>by
  simp only[eN] at h;obtain⟨a,b,c,rest,rfl,_,h2⟩:=h;have:=eN.len h2;simp only[List.length_cons,this];omega
theorem eN.get{w:World}{D:Nat→Prop}:∀{l:List Tr} {cells:List Value},eN w D cells l→∀k (hk:k<l.length),
  ∃a b c,cells[k*3]?=some a∧cells[k*3+1]?=some b∧cells[k*3+2]?=some c∧TrD w D (.agg #[a,b,c]) l[k]
 |[],cells,h,k,hk=>absurd hk (by simp)
 |x::r,cells,h,k,hk=>by
  simp only[eN] at h;obtain⟨a,b,c,rest,rfl,h1,h2⟩:=h;cases k with
  |zero=>exact⟨a,b,c,rfl,rfl,rfl,h1⟩
  |succ k=>
   obtain⟨a',b',c',g1,g2,g3,g4⟩:=eN.get h2 k (by simpa using hk);refine⟨a',b',c',?_,?_,?_,g4⟩
   ·rw[show(k+1)*3=k*3+1+1+1 from by omega];simpa using g1
   ·rw[show(k+1)*3+1=k*3+1+1+1+1 from by omega];simpa using g2
   rw[show(k+1)*3+2=k*3+2+1+1+1 from by omega];simpa using g3
theorem eN.append{w:World}{D:Nat→Prop}:∀{l l':List Tr} {cells cells':List Value},eN w D cells l→eN w D cells' l'→eN w D (cells++cells') (l++l')
 |[],l',cells,cells',h,h'=>by simp only[eN] at h;subst h;simpa using h'
 |x::r,l',cells,cells',h,h'=>by
  simp only[eN] at h;obtain⟨a,b,c,rest,rfl,h1,h2⟩:=h;simp only[List.cons_append,eN];exact⟨a,b,c,_,rfl,h1,eN.append h2 h'⟩
def TrR(w:World)(r:Option Nat)(v:Value)(t:Tr):Prop:=TrD w (Dm w r) v t
theorem TrR.fr{r:Option Nat}{w w':World}{v:Value}{t:Tr}(h:TrR w r v t)(f:Fr r w w'):TrR w' r v t:=TrD.keep (xZ f) t v h
theorem TrR.weak{r:Option Nat}{w:World}{v:Value}{t:Tr}(h:TrR w r v t):TrR w none v t:=TrD.keep nT t v h
theorem TrR.mk_{r:Option Nat}{w:World}{thr:Int}{nodes:List Int}{inner:List Tr}{vn vi:Value}{cells:List Value}(h0:Wi thr)(h1:SlI w r vn nodes)(h2:SlD w (Dm w r) 3 vi cells)(h3:nodes.length≤1073741824)(h4:inner.length≤1073741824)(h5:eN w (Dm w r) cells inner):
  TrR w r (.agg #[.int .i64 thr,vn,vi]) (.mk thr nodes inner):=by
 unfold TrR;simp only[TrD];exact⟨vn,vi,cells,rfl,h0,h1.1,h1.2,h2,h3,h4,h5⟩
theorem TrD.mk_{D:Nat→Prop}{w:World}{thr:Int}{nodes:List Int}{inner:List Tr}{vn vi:Value}{cells:List Value}(h0:Wi thr)(h1:SlD w D 1 vn (nodes.map (Value.int .i64)))(h1':∀x ∈ nodes,Wi x)(h2:SlD w D 3 vi cells)(h3:nodes.length≤1073741824)(h4:inner.length≤1073741824)(h5:eN w D cells inner):
  TrD w D (.agg #[.int .i64 thr,vn,vi]) (.mk thr nodes inner):=by
 simp only[TrD];exact⟨vn,vi,cells,rfl,h0,h1,h1',h2,h3,h4,h5⟩
theorem TrR.open_{r:Option Nat}{w:World}{v:Value}{thr:Int}{nodes:List Int}{inner:List Tr}(h:TrR w r v (.mk thr nodes inner)):
  ∃A c A' c',v= .agg #[.int .i64 thr,.slice A nodes.length c,.slice A' inner.length c']∧Wi thr∧SlI w r (.slice A nodes.length c) nodes∧nodes.length≤1073741824∧inner.length≤1073741824∧inner.length≤c'∧c'≤9223372036854775807∧
   (0<inner.length→∃b off,A'=some ⟨b,off,none⟩∧b<w.heap.size∧some b≠r∧∀k (hk:k<inner.length),∃x y z,w.cell? ⟨b,off+k*3,none⟩=some x∧w.cell? ⟨b,off+k*3+1,none⟩=some y∧w.cell? ⟨b,off+k*3+2,none⟩=some z∧TrR w r (.agg #[x,y,z]) inner[k]):=by
 unfold TrR at h;simp only[TrD] at h;obtain⟨vn,vi,cells,rfl,h0,h1,h2,h3,h4,h5,h6⟩:=h;have h1':=h1;have h3':=h3;obtain⟨A,n,c,rfl,hl,hc,hm,hx⟩:=h1;obtain⟨A',n',c',rfl,hl',hc',hm',hx'⟩:=h3;have hlen:=h6.len;have hn':n'=inner.length:=by omega
 have hn:n=nodes.length:=by simpa using hl.symm
 subst hn' hn;unfold maxLen at hm hm';unfold Few at h4 h5;refine⟨A,c,A',c',rfl,h0,⟨h1',h2⟩,h4,h5,hc',hm',fun hp=>?_⟩;obtain⟨b,off,rfl,hb,hx⟩:=hx' hp;refine⟨b,off,rfl,hb.1,hb.2,fun k hk=>?_⟩;obtain⟨x,y,z,g1,g2,g3,g4⟩:=h6.get k hk;exact⟨x,y,z,hx _ _ g1,hx _ _ g2,hx _ _ g3,g4⟩
def bP(T:TypeId)(w:World)(g:Nat):Prop:=
 ∃(v:Value) (l:List Int) (k:Nat),w.heap[g]?=some (.cells #[v,.int .i64 k] T (0,0))∧SlD w (fun b=>b<g) 1 v (l.map (Value.int .i64))∧(∀n ∈ l,Wi n)∧l.length≤800∧k≤l.length
theorem bP.lt{T:TypeId}{w:World}{g:Nat}(h:bP T w g):g<w.heap.size:=by
 obtain⟨v,l,k,h,_⟩:=h;rcases Nat.lt_or_ge g w.heap.size with hh|hh
 ·exact hh
 rw[Array.getElem?_eq_none hh] at h;cases h
theorem bP.frs{T:TypeId}{w w':World}{g:Nat}{r:Option Nat}(h:bP T w g)(f:Fr r w w')(hr:∀b,r=some b→g<b):bP T w' g:=by
 have hg:=h.lt;obtain⟨v,l,k,h1,h2,h3,h4⟩:=h;exact⟨v,l,k,(f.block g hg (fun e=>by have:=hr _ e.symm;omega)).trans h1,h2.keep fun b hb=>⟨hb,f.block b (by omega) (fun e=>by have:=hr _ e.symm;omega)⟩,h3,h4⟩
theorem bP.fr{T:TypeId}{w w':World}{g:Nat}(h:bP T w g)(f:Fr none w w'):bP T w' g:=h.frs f (fun _ e=>by cases e)
theorem bP.open_{T:TypeId}{w:World}{g:Nat}(h:bP T w g):
  ∃(A:Option Addr) (c:Nat) (l:List Int) (k:Nat),w.heap[g]?=some (.cells #[.slice A l.length c,.int .i64 k] T (0,0))∧SlD w (fun b=>b<g) 1 (.slice A l.length c) (l.map (Value.int .i64))∧(∀n ∈ l,Wi n)∧l.length≤800∧k≤l.length∧
   l.length≤c∧c≤9223372036854775807∧(0<l.length→∃b off,A=some ⟨b,off,none⟩∧b<g∧∀j (hj:j<l.length),w.cell? ⟨b,off+j,none⟩=some (.int .i64 l[j])):=by
 obtain⟨v,l,k,h1,h2,h3,h4,h5⟩:=h;have h2':=h2;obtain⟨A,n,c,rfl,hl,hc,hm,hx⟩:=h2;unfold maxLen at hm;have e:n=l.length:=by simpa using hl.symm
 subst e;refine⟨A,c,l,k,h1,h2',h3,h4,h5,hc,hm,fun hn=>?_⟩;obtain⟨b,off,rfl,hb,hx⟩:=hx hn;exact⟨b,off,rfl,hb,fun j hj=>hx j _ (by simp[hj])⟩
theorem bP.next{T:TypeId}{w:World}{g:Nat}{v:Value}{l:List Int}{k:Nat}(h1:w.heap[g]?=some (.cells #[v,.int .i64 k] T (0,0)))(h2:SlD w (fun b=>b<g) 1 v (l.map (Value.int .i64)))(h2':∀n ∈ l,Wi n)(h3:l.length≤800)(h4:k<l.length)(hg:g<w.heap.size):
  bP T (w.setCell ⟨g,1,none⟩ (.int .i64 ((k:Int)+1))) g:=by
 refine⟨v,l,k+1,?_,h2.keep fun b hb=>⟨hb,(Fr.set1 w ⟨g,1,none⟩ _).block b (by omega) (by simp;omega)⟩,h2',h3,by omega⟩;simp[World.setCell,Array.getElem?_modify,h1]
theorem bP.made{T:TypeId}{w:World}{v:Value}{l:List Int}(h:SlI w none v l)(hl:l.length≤800):bP T (w.alloc (.cells #[v,.int .i64 0] T)) w.heap.size:=
 ⟨v,l,0,heap_alloc_new w _,h.1.keep fun b hb=>⟨hb.1,((Fr.refl none w).alloc _).block b hb.1 (by simp)⟩,h.2,hl,Nat.zero_le _⟩
def Im(T:TypeId)(w:World)(e:Ending)(w':World):Prop:=
 ∃g:Nat,e= .returned (.pointer (some ⟨g,0,none⟩))∧w.heap.size≤g∧bP T w' g∧Fr none w w'
def GU(T:TypeId)(w:World)(g:Nat)(lo hi:Int)(e:Ending)(w':World):Prop:=
 ∃x:Int,e= .returned (.int .i64 x)∧lo≤x∧x≤hi∧bP T w' g∧Fr (some g) w w'
theorem bP.drewN{T:TypeId}{w:World}{g:Nat}(h:bP T w g)(n:Nat):bP T (w.drewN n) g:=h.fr ((Fr.refl _ _).drewN n)
theorem bP.drew{T:TypeId}{w:World}{g:Nat}(h:bP T w g):bP T w.drew g:=h.fr (Fr.refl _ _).drew
end Go.Proofs.YthaggndnfamhjaaGreatDoor
