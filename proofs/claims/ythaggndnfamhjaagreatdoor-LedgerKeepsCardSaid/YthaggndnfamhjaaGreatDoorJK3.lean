/- Texts, joined. -/
import Derived.Test.YthaggndnfamhjaaGreatDoorJK2
import Derived.Deep.RegionHeld3
import Derived.Deep.RegionLaw
import Derived.Deep.RegionWith
import Derived.StillTailTactics
import Derived.Deep.DeepCutAuto
import Derived.Test.YthaggndnfamhjaaGreatDoorJK16

set_option linter.unusedSimpArgs false
set_option linter.unusedVariables false
set_option maxRecDepth 100000
set_option maxHeartbeats 16000000
namespace Go.Proofs.YthaggndnfamhjaaGreatDoor
open Go.RowKit
def cH(P:Program)(t e:TypeId)(size bytes:Nat):Prop:=
 ∃(i:TypeInfo) (z:Value),P.underlying t=some (.slice e)∧P.info? e=some i∧i.zero=some z∧i.size=size∧i.bytes=bytes∧z.cells.size=size∧0<size
theorem cH.mk_{P:Program}{t e:TypeId}{z:Value}{size bytes:Nat}(h1:P.underlying t=some (.slice e))(h2:(P.info? e).map (fun i=>(i.zero,i.size,i.bytes))=some (some z,size,bytes))(h3:z.cells.size=size)(h4:0<size):
  cH P t e size bytes:=by
 obtain⟨i,a,b,c,d⟩:=info_parts h2;exact⟨i,z,h1,a,b,c,d,h3,h4⟩
theorem SlD.any{w:World}{D:Nat→Prop}{size:Nat}{v:Value}{xs:List Value}(h:SlD w D size v xs):SlD w (fun _=>True) size v xs:=h.keep fun _ _=>⟨trivial,rfl⟩
theorem SlD.lit(w:World)(cs:Array Value)(e:TypeId)(n size:Nat)(hs:cs.size=n*size)(hn:n≤maxLen):
  SlD (w.alloc (.cells cs e)) (fun _=>True) size (.slice (some ⟨w.heap.size,0,none⟩) n n) cs.toList:=
 ⟨_,n,n,rfl,by simpa using hs,Nat.le_refl _,hn,fun _=>⟨_,0,rfl,trivial,fun j u hu=>by
  rw[Nat.zero_add,dS];simpa using hu⟩⟩
theorem nU{P:Program}{t e ty:TypeId}{size bytes:Nat}(E:cH P t e size bytes)(w:World)(base:Nat)(A:Option Addr)(n c:Nat)(xs:List Value)(hown:w.ownsRow base e size (.slice A n c) n xs)
  (B:Option Addr) (m d:Nat) (news:List Value) (hr:SlD w (fun _=>True) size (.slice B m d) news) (h1:∀u ∈ news,u.oneCell'=true) (hb:(n+m)*bytes≤140737488355328) (h63:n+m≤maxLen) (hbase:base≤w.heap.size):
  ∃A' c' w',(Builtin.append_ #[t,t] ty #[.slice A n c,.slice B m d]).run P w= .ok (.slice A' (n+m) c') w'∧w'.ownsRow base e size (.slice A' (n+m) c') (n+m) (xs++news)∧
   w.grownBy w' (Value.slice A n c).ownBlock∧((Value.slice A' (n+m) c').ownBlock=(Value.slice A n c).ownBlock∨(Value.slice A' (n+m) c').ownBlock=some w.heap.size):=by
 obtain⟨i,z,ht,hi,hz,hsize,hby,hzs,hsz⟩:=E;obtain⟨B',m',d',e0,hl,hmd,hd,hx⟩:=hr;injection e0 with e1 e2 e3
 subst e1 e2 e3;cases hB:B with
 |none=>
  have hm:m=0:=by
   rcases Nat.eq_zero_or_pos m with h0|h0
   ·exact h0
   obtain⟨b,off,h,_⟩:=hx h0;rw[hB] at h;cases h
  subst hm;have hn:news=[]:=List.eq_nil_of_length_eq_zero (by simpa using hl);subst hn;refine⟨A,c,w,?_,by simpa using hown,World.grownBy.refl w _,.inl rfl⟩;rcases hown.2 with⟨hv,_⟩|⟨g,cap,cur,hv,_,_,hnc,_⟩
  ·injection hv with v1 v2 v3
   subst v1 v2 v3;simp[Builtin.append_,run_underlying ht,sizeOf,typeInfo,hi,Builtin.lenOf,Builtin.firstCells]
  injection hv with v1 v2 v3
  subst v1 v3;simp[Builtin.append_,run_underlying ht,sizeOf,typeInfo,hi,Builtin.lenOf,Builtin.firstCells,hnc,storeCells]
 |some ad=>
  have hcells:∀j u,news[j]?=some u→w.cell? (ad.add j)=some u:=by
   intro j u hu;rcases Nat.eq_zero_or_pos m with h0|h0
   ·subst h0;have hn:news=[]:=List.eq_nil_of_length_eq_zero (by simpa using hl);subst hn;simp at hu
   obtain⟨b,off,h,_,hc⟩:=hx h0;rw[hB] at h;injection h with h
   subst h;rw[Addr.add_lit];exact hc j u hu
  obtain⟨v',w',hrun,h2,h3,_,h5⟩:=run_append_own_at (P:=P) w base t ty e i z size bytes ht hi hz hsize hby hzs hsz _ n xs hown ad m d news hl hcells h1 h63 hb hbase;rcases h2.2 with⟨rfl,e0⟩|⟨g,cap,cur,rfl,_⟩
  ·have hn0:n+m=0:=e0;rw[hn0] at h2 ⊢;exact⟨none,0,w',hrun,h2,h3,h5⟩
  exact⟨_,_,w',hrun,h2,h3,h5⟩
theorem fB{P:Program}{t e:TypeId}{size bytes:Nat}(E:cH P t e size bytes){w:World}{ops:Array Oper}{rest:List Oper}{o:Oper}{a:Act}{Q:Exit→Act→World→Prop}(hgd:o.guard=none)(s x:Operand)
  (ho:o.op= .call {callee:=.builtin .append,args:=#[s,x],argTypes:=#[t,t]})
  (base:Nat) (A:Option Addr) (n c:Nat) (xs:List Value) (hs:a.eval s= .slice A n c) (hown:w.ownsRow base e size (.slice A n c) n xs)
  (B:Option Addr) (m d:Nat) (news:List Value) (hx:a.eval x= .slice B m d) (hr:SlD w (fun _=>True) size (.slice B m d) news) (h1:∀u ∈ news,u.oneCell'=true) (hb:(n+m)*bytes≤140737488355328) (h63:n+m≤maxLen) (hbase:base≤w.heap.size)
  (h:∀A' c' w',w'.ownsRow base e size (.slice A' (n+m) c') (n+m) (xs++news)→w.grownBy w' (Value.slice A n c).ownBlock→
   ((Value.slice A' (n+m) c').ownBlock=(Value.slice A n c).ownBlock∨(Value.slice A' (n+m) c').ownBlock=some w.heap.size)→wpList P ops Q rest (a.put o.dst (.slice A' (n+m) c')) w'):
  wpList P ops Q (o::rest) a w:=by
 refine wpList_plain hgd fun K hK=>?_;obtain⟨A',c',w',hr,h2,h3,h4⟩:=nU (P:=P) (ty:=o.type) E w base A n c xs hown B m d news hr h1 hb h63 hbase;unfold Oper.wp execOp;simp only[ho,resolve,invoke,builtin,Sem.run_bind,Sem.run_pure,Result.andThen_ok,List.map_toArray,List.map_cons,List.map_nil,hs,hx,hr];exact hK _ _ (h A' c' w' h2 h3 h4)
def oJ(B:Nat)(v v':Value):Prop:=v'.ownBlock=v.ownBlock∨∃g,v'.ownBlock=some g∧B≤g
theorem iW{P:Program}{t e:TypeId}{size bytes:Nat}(E:cH P t e size bytes){w:World}{ops:Array Oper}{rest:List Oper}{o:Oper}{a:Act}{Q:Exit→Act→World→Prop}(hgd:o.guard=none)(s x:Operand)
  (ho:o.op= .call {callee:=.builtin .append,args:=#[s,x],argTypes:=#[t,t]})
  (base:Nat) (A:Option Addr) (n c:Nat) (xs:List Value) (hs:a.eval s= .slice A n c) (hown:w.ownsRow base e size (.slice A n c) n xs)
  (m:Nat) (cs:List Value) (e':TypeId) (bk:Nat) (hx:a.eval x= .slice (some ⟨bk,0,none⟩) m m) (hbk:w.heap.size=bk) (hcs:cs.length=m*size) (h1:∀u ∈ cs,u.oneCell'=true) (hb:(n+m)*bytes≤140737488355328) (h63:n+m≤maxLen) (hbase:base≤w.heap.size)
  (h:∀A' c' w',w'.ownsRow base e size (.slice A' (n+m) c') (n+m) (xs++cs)→Fr (Value.slice A n c).ownBlock w w'→oJ w.heap.size (.slice A n c) (.slice A' (n+m) c')→wpList P ops Q rest (a.put o.dst (.slice A' (n+m) c')) w'):
  wpList P ops Q (o::rest) a (w.alloc (.cells cs.toArray e')):=by
 subst hbk;refine fB E hgd s x ho base A n c xs hs (hown.alloc _) _ m m cs hx (by simpa using SlD.lit w cs.toArray e' m size (by simpa using hcs) (by omega)) h1 hb h63 (by simp;omega) ?_;intro A' c' w' own' gr' bl';refine h A' c' w' own' (((Fr.refl _ w).alloc _).same gr') ?_;rcases bl' with bl'|bl'
 ·exact .inl bl'
 exact .inr ⟨_,bl',by simp⟩
theorem sN{P:Program}{t e:TypeId}{size bytes:Nat}(E:cH P t e size bytes){w:World}{ops:Array Oper}{o:Oper}{a:Act}{K:Act→World→Prop}{Q:Exit→Act→World→Prop}{E':Prop}(hgd:o.guard=none)(s x:Operand)
  (ho:o.op= .call {callee:=.builtin .append,args:=#[s,x],argTypes:=#[t,t]})
  (base:Nat) (A:Option Addr) (n c:Nat) (xs:List Value) (hs:a.eval s= .slice A n c) (hown:w.ownsRow base e size (.slice A n c) n xs)
  (m:Nat) (cs:List Value) (e':TypeId) (bk:Nat) (hx:a.eval x= .slice (some ⟨bk,0,none⟩) m m) (hbk:w.heap.size=bk) (hcs:cs.length=m*size) (h1:∀u ∈ cs,u.oneCell'=true) (hb:(n+m)*bytes≤140737488355328) (h63:n+m≤maxLen) (hbase:base≤w.heap.size)
  (h:∀A' c' w',w'.ownsRow base e size (.slice A' (n+m) c') (n+m) (xs++cs)→Fr (Value.slice A n c).ownBlock w w'→oJ w.heap.size (.slice A n c) (.slice A' (n+m) c')→K (a.put o.dst (.slice A' (n+m) c')) w'):
  if Region.wanted o (yielded ops a.tmps)=true then Oper.wp P o a (w.alloc (.cells cs.toArray e')) K Q else E':=by
 have hw:Region.wanted o (yielded ops a.tmps)=true:=by simp[Region.wanted,hgd]
 rw[if_pos hw];subst hbk;obtain⟨A',c',w',hr,h2,h3,h4⟩:=nU (P:=P) (ty:=o.type) E (w.alloc (.cells cs.toArray e')) base A n c xs (hown.alloc _) _ m m cs (by simpa using SlD.lit w cs.toArray e' m size (by simpa using hcs) (by omega)) h1 hb h63 (by simp;omega);unfold Oper.wp execOp;simp only[ho,resolve,invoke,builtin,Sem.run_bind,Sem.run_pure,Result.andThen_ok,List.map_toArray,List.map_cons,List.map_nil,hs,hx,hr];refine h A' c' w' h2 (((Fr.refl _ w).alloc _).same h3) ?_;rcases h4 with bl'|bl'
 ·exact .inl bl'
 exact .inr ⟨_,bl',by simp⟩
theorem aR{w w':World}{base:Nat}{e:TypeId}{size n:Nat}{v:Value}{xs:List Value}{r:Option Nat}(h:w.ownsRow base e size v n xs)(f:Fr r w w')(hr:∀g,r=some g→g<base):w'.ownsRow base e size v n xs:=by
 refine h.kept f ?_;cases hv:v.ownBlock with
 |none=>exact .inl rfl
 |some k=>
  refine .inr fun e=>?_;have:=(h.lt k hv).1;have:=hr k e.symm;omega
theorem bH{w:World}{base:Nat}{e:TypeId}{size n:Nat}{v:Value}{xs:List Value}(h:w.ownsRow base e size v n xs):∀g,v.ownBlock=some g→base≤g:=fun g hg=>(h.lt g hg).1
theorem gF{w:World}{base:Nat}{e:TypeId}{size n:Nat}{v:Value}{xs:List Value}(h:w.ownsRow base e size v n xs){g:Nat}(hg:g<base):v.ownBlock≠some g:=fun e=>by
 have:=bH h g e;omega
theorem eT{w:World}{n:Nat}(h:n=w.heap.size)(o:Obj):(w.alloc o).heap[n]?=some o:=by subst h;exact heap_alloc_new w o
def Dn(B:Nat)(w:World):Nat→Prop:=fun b=>B≤b∧b<w.heap.size
theorem nD{B:Nat}{r:Option Nat}{w w':World}(f:Fr r w w')(hr:∀g,r=some g→g<B):∀k,Dn B w k→Dn B w' k∧w'.heap[k]?=w.heap[k]?:=
 fun k hk=>⟨⟨hk.1,Nat.lt_of_lt_of_le hk.2 f.size⟩,f.block k hk.2 (fun e=>by have:=hr k e.symm;have:=hk.1;omega)⟩
theorem SlD.own_dn{w:World}{base:Nat}{e:TypeId}{size:Nat}{v:Value}{n:Nat}{xs:List Value}(h:w.ownsRow base e size v n xs):SlD w (Dn base w) size v xs:=by
 obtain⟨hl,h2⟩:=h;have h0:w.ownsRow base e size v n xs:=⟨hl,h2⟩;rcases h2 with⟨rfl,rfl⟩|⟨g,cap,cur,rfl,hg,hh,hnc,hm,hs,ht⟩
 ·exact⟨none,0,0,rfl,hl,by omega,by unfold maxLen;omega,by omega⟩
 refine⟨_,n,cap,rfl,hl,hnc,hm,fun hn=>⟨g,0,rfl,⟨hg,(h0.lt g rfl).2⟩,fun j u hu=>?_⟩⟩;have:=h0.cells (g:=g) rfl j u hu;rw[Addr.add_lit] at this;exact this
theorem qL{B:Nat}{r:Option Nat}{w:World}(hr:∀g,r=some g→g<B):∀k,Dn B w k→Dm w r k∧w.heap[k]?=w.heap[k]?:=
 fun k hk=>⟨⟨hk.2,fun e=>by have:=hr k e.symm;have:=hk.1;omega⟩,rfl⟩
theorem SlD.lit_dm{w w':World}{r:Option Nat}(cs:Array Value)(e:TypeId)(n size:Nat)(hs:cs.size=n*size)(hn:n≤maxLen)(hr:∀g,r=some g→g<w.heap.size)(f:Fr r (w.alloc (.cells cs e)) w'):
  SlD w' (Dm w' r) size (.slice (some ⟨w.heap.size,0,none⟩) n n) cs.toList:=by
 have hz:=f.size;simp only[World.size_alloc] at hz;have hne:some w.heap.size≠r:=fun h=>by have:=hr _ h.symm;omega
 exact⟨_,n,n,rfl,by simpa using hs,Nat.le_refl _,hn,fun _=>⟨_,0,rfl,⟨by omega,hne⟩,fun j u hu=>by
  rw[Nat.zero_add,f.cell (by simp) hne,dS];simpa using hu⟩⟩
theorem dH{B B':Nat}{w:World}(h:B≤B'):∀k,Dn B' w k→Dn B w k∧w.heap[k]?=w.heap[k]?:=fun _k hk=>⟨⟨Nat.le_trans h hk.1,hk.2⟩,rfl⟩
def Dx(B:Nat)(w:World)(v:Value):Nat→Prop:=fun b=>B≤b∧b<w.heap.size∧v.ownBlock≠some b
theorem sO{B:Nat}{w w':World}{v v':Value}(f:Fr v.ownBlock w w')(nb:oJ w.heap.size v v'):∀k,Dx B w v k→Dx B w' v' k∧w'.heap[k]?=w.heap[k]?:=fun k hk=>by
 refine⟨⟨hk.1,Nat.lt_of_lt_of_le hk.2.1 f.size,fun e=>?_⟩,f.block k hk.2.1 (fun e=>hk.2.2 e.symm)⟩;rcases nb with h|⟨g,h,hg⟩
 ·rw[h] at e;exact hk.2.2 e
 rw[h] at e;injection e with e;have:=hk.2.1;omega
theorem jQ{B:Nat}{w w':World}{v:Value}{r:Option Nat}(f:Fr r w w')(hr:∀g,r=some g→g<B):∀k,Dx B w v k→Dx B w' v k∧w'.heap[k]?=w.heap[k]?:=fun k hk=>
 ⟨⟨hk.1,Nat.lt_of_lt_of_le hk.2.1 f.size,hk.2.2⟩,f.block k hk.2.1 (fun e=>by have:=hr k e.symm;have:=hk.1;omega)⟩
theorem yB{B B':Nat}{w:World}{v:Value}(h:B≤B')(hv:∀g,v.ownBlock=some g→g<B'):∀k,Dn B' w k→Dx B w v k∧w.heap[k]?=w.heap[k]?:=fun k hk=>
 ⟨⟨Nat.le_trans h hk.1,hk.2,fun e=>by have:=hv k e;have:=hk.1;omega⟩,rfl⟩
theorem Bf{B:Nat}{w:World}{v:Value}:∀k,Dx B w v k→Dn B w k∧w.heap[k]?=w.heap[k]?:=fun _k hk=>⟨⟨hk.1,hk.2.1⟩,rfl⟩
theorem aF{w w':World}{g:Nat}{o:Obj}{r:Option Nat}(h:w.heap[g]?=some o)(f:Fr r w w')(hr:r≠some g):w'.heap[g]?=some o:=by
 rw[f.block g ?_ (fun e=>hr e.symm)]
 ·exact h
 rcases Nat.lt_or_ge g w.heap.size with hh|hh
 ·exact hh
 rw[Array.getElem?_eq_none hh] at h;cases h
theorem aC{w:World}{g:Nat}{o:Obj}(h:w.heap[g]?=some o):g<w.heap.size:=by
 rcases Nat.lt_or_ge g w.heap.size with hh|hh
 ·exact hh
 rw[Array.getElem?_eq_none hh] at h;cases h
theorem aI{w:World}{g:Nat}{cs:Array Value}{t:TypeId}{fz:Nat × Nat}(h:w.heap[g]?=some (.cells cs t fz))(i:Nat)(u:Value):(w.setCell ⟨g,i,none⟩ u).heap[g]?=some (.cells (cs.setIfInBounds i u) t fz):=by
 simp[World.setCell,Array.getElem?_modify,h]
theorem aD(w:World)(o:Obj):(w.alloc o).heap[w.heap.size]?=some o:=heap_alloc_new w o
theorem aA{w:World}{g:Nat}{cs:Array Value}{t:TypeId}{fz:Nat × Nat}(h:w.heap[g]?=some (.cells cs t fz))(i:Nat):w.cell? ⟨g,i,none⟩=cs[i]?:=cell_of_row w g i _ _ _ h
theorem aB{w:World}{g:Nat}{cs:Array Value}{t:TypeId}(h:w.heap[g]?=some (.cells cs t (0,0)))(i:Nat):w.frozen? ⟨g,i,none⟩=false:=by simp[World.frozen?,h]
structure Rec (α:Type) where
 sz:Nat
 enc:α→List Value
 ok:α→Prop
 len:∀a,(enc a).length=sz
 one:∀a,∀u ∈ enc a,u.oneCell'=true
 pos:0<sz
def flR{α:Type}(R:Rec α)(l:List α):List Value:=l.flatMap R.enc
theorem dQ{α:Type}(R:Rec α)(l:List α):(flR R l).length=l.length*R.sz:=by
 induction l with
 |nil=>simp[flR]
 |cons x r ih=>show(R.enc x++flR R r).length=_;rw[List.length_append,R.len,ih,List.length_cons,Nat.succ_mul];omega
theorem gG{α:Type}(R:Rec α)(x:α)(r:List α):flR R (x::r)=R.enc x++flR R r:=rfl
theorem fW{α:Type}(R:Rec α)(a b:List α):flR R (a++b)=flR R a++flR R b:=by unfold flR;rw[List.flatMap_append]
theorem cV{α:Type}(R:Rec α)(a:List α)(x:α):flR R (a++[x])=flR R a++R.enc x:=by rw[fW];simp[flR]
theorem dA{α:Type}(R:Rec α)(l:List α):∀u ∈ flR R l,u.oneCell'=true:=fun u hu=>by
 obtain⟨x,_,h⟩:=List.mem_flatMap.1 hu;exact R.one x u h
theorem bU{α:Type}(R:Rec α):∀(l:List α) (k:Nat) (hk:k<l.length) (j:Nat),j<R.sz→(flR R l)[k*R.sz+j]?=(R.enc l[k])[j]?
 |[],k,hk,_,_=>absurd hk (by simp)
 |x::r,0,_,j,hj=>by
  rw[gG,Nat.zero_mul,Nat.zero_add,List.getElem?_append_left (by rw[R.len];exact hj)];rfl
 |x::r,k+1,hk,j,hj=>by
  have e:(k+1)*R.sz+j=(k*R.sz+j)+(R.enc x).length:=by rw[R.len,Nat.succ_mul];omega
  rw[gG,e,List.getElem?_append_right (by omega),Nat.add_sub_cancel,bU R r k (by simpa using hk) j hj];rfl
theorem gH{α:Type}(R:Rec α)(l:List α)(n:Nat):(flR R l).take (n*R.sz)=flR R (l.take n):=by
 induction l generalizing n with
 |nil=>simp[flR]
 |cons x r ih=>
  cases n with
  |zero=>simp[flR]
  |succ n=>
   have e:(n+1)*R.sz=(R.enc x).length+n*R.sz:=by rw[R.len,Nat.succ_mul];omega
   rw[gG,e,List.take_length_add_append,ih];rfl
def SlR{α:Type}(R:Rec α)(w:World)(r:Option Nat)(v:Value)(l:List α):Prop:=SlD w (Dm w r) R.sz v (flR R l)∧∀a ∈ l,R.ok a
theorem SlR.fr{α:Type}{R:Rec α}{r:Option Nat}{w w':World}{v:Value}{l:List α}(h:SlR R w r v l)(f:Fr r w w'):SlR R w' r v l:=⟨h.1.keep (xZ f),h.2⟩
theorem SlR.weak{α:Type}{R:Rec α}{r:Option Nat}{w:World}{v:Value}{l:List α}(h:SlR R w r v l):SlR R w none v l:=⟨h.1.keep nT,h.2⟩
theorem SlR.nil{α:Type}(R:Rec α)(w:World)(r:Option Nat):SlR R w r (.slice none 0 0) []:=⟨SlD.nil _ _ _,by simp⟩
theorem SlR.fresh{α:Type}{R:Rec α}{w w':World}{g:Nat}{v:Value}{l:List α}(h:SlR R w none v l)(f:Fr none w w')(hg:w.heap.size≤g):SlR R w' (some g) v l:=⟨h.1.keep (uE f hg),h.2⟩
theorem SlR.len_{α:Type}{R:Rec α}{n:Nat}{l:List α}(h:(flR R l).length=n*R.sz):n=l.length:=by
 rw[dQ] at h;exact(Nat.mul_right_cancel R.pos h).symm
theorem SlR.open_{α:Type}{R:Rec α}{r:Option Nat}{w:World}{v:Value}{l:List α}(h:SlR R w r v l):
  ∃A c,v= .slice A l.length c∧l.length≤c∧c≤9223372036854775807∧(0<l.length→∃b off,A=some ⟨b,off,none⟩∧b<w.heap.size∧some b≠r∧∀k (hk:k<l.length) (j:Nat) (u:Value),(R.enc l[k])[j]?=some u→w.cell? ⟨b,off+k*R.sz+j,none⟩=some u):=by
 obtain⟨⟨A,n,c,rfl,hl,hc,hm,hx⟩,_⟩:=h;unfold maxLen at hm;have e:=SlR.len_ hl;subst e;refine⟨A,c,rfl,hc,hm,fun hn=>?_⟩;obtain⟨b,off,rfl,hb,hx⟩:=hx hn;refine⟨b,off,rfl,hb.1,hb.2,fun k hk j u hu=>?_⟩;have hj:j<R.sz:=by
  have:=(List.getElem?_eq_some_iff.1 hu).1
  rwa [R.len] at this
 rw[Nat.add_assoc];exact hx _ u ((bU R l k hk j hj).trans hu)
theorem SlR.of_own{α:Type}{R:Rec α}{w:World}{base:Nat}{e:TypeId}{v:Value}{n:Nat}{l:List α}{r:Option Nat}(h:w.ownsRow base e R.sz v n (flR R l))(hr:∀g,r=some g→g<base)(hw:∀c ∈ l,R.ok c):SlR R w r v l:=
 ⟨SlD.of_own h hr,hw⟩
theorem SlR.take{α:Type}{R:Rec α}{w:World}{r:Option Nat}{A:Option Addr}{n c:Nat}{l:List α}(h:SlR R w r (.slice A n c) l)(m:Nat)(hm:m≤n):SlR R w r (.slice A m c) (l.take m):=
 ⟨by have:=h.1.take m hm;rwa [gH] at this,fun x hx=>h.2 x (List.mem_of_mem_take hx)⟩
theorem SlR.lit{α:Type}{R:Rec α}{w w':World}{r:Option Nat}(l:List α)(cs:Array Value)(e:TypeId)(hcs:cs=(flR R l).toArray)(hl:l.length≤1000)(hw:∀c ∈ l,R.ok c)(hr:∀g,r=some g→g<w.heap.size)(f:Fr r (w.alloc (.cells cs e)) w'):
  SlR R w' r (.slice (some ⟨w.heap.size,0,none⟩) l.length l.length) l:=by
 subst hcs;exact⟨by simpa using SlD.lit_dm (flR R l).toArray e l.length R.sz (by simpa using dQ R l) (by unfold maxLen;omega) hr f,hw⟩
def NwR{α:Type}(R:Rec α)(l:List α)(w:World)(e:Ending)(w':World):Prop:=∃v,e= .returned v∧SlD w' (Dn w.heap.size w') R.sz v (flR R l)∧Fr none w w'
theorem NwR.sl{α:Type}{R:Rec α}{l:List α}{w w':World}{v:Value}(h:SlD w' (Dn w.heap.size w') R.sz v (flR R l))(hw:∀c ∈ l,R.ok c)(r:Option Nat)(hr:∀g,r=some g→g<w.heap.size):SlR R w' r v l:=⟨h.keep (qL hr),hw⟩
def CL2(w:World)(b:Nat)(x y:Value)(T:TypeId):Prop:=w.heap[b]?=some (.cells #[x,y] T (0,0))
theorem CL2.fr{w w':World}{b:Nat}{x y:Value}{T:TypeId}{r:Option Nat}(h:CL2 w b x y T)(f:Fr r w w')(hr:r≠some b:=by simp):CL2 w' b x y T:=aF h f hr
theorem CL2.cell{w:World}{b:Nat}{x y:Value}{T:TypeId}(h:CL2 w b x y T):w.cell? ⟨b,0,none⟩=some x∧w.cell? ⟨b,1,none⟩=some y:=⟨by rw[aA h];rfl,by rw[aA h];rfl⟩
def bL(l:List UInt8):ByteArray:=⟨l.toArray⟩
theorem fX(l:List UInt8):(bL l).data.toList=l:=rfl
theorem GG(S:ByteArray):S=bL S.data.toList:=by unfold bL;simp
theorem Bg(a b:List UInt8):bL a++bL b=bL (a++b):=by
 apply ByteArray.ext;simp[bL]
theorem dB(l:List UInt8):(bL l).size=l.length:=by simp[bL,ByteArray.size]
theorem bQ(l:List UInt8):(bL l).toList=l:=by rw[ByteArray.toList_eq,fX]
structure Ast where
 code:List UInt8
 iss:Int
 deriving DecidableEq
structure aQ where
 id:Int
 bal:Int
 seq:Int
 deriving DecidableEq
structure Ln where
 acc:Int
 ast:Ast
 bal:Int
 lim:Int
 deriving DecidableEq
structure Ofr where
 id:Int
 sel:Int
 sg:Ast
 by_:Ast
 amt:Int
 num:Int
 den:Int
 deriving DecidableEq
structure Lgr where
 num:Int
 accs:List aQ
 lines:List Ln
 offers:List Ofr
 nid:Int
 fees:Int
 link:Nat
 deriving DecidableEq
def nat:Ast:=⟨[],0⟩
def aP:Rec aQ:=⟨3,fun a=>[.int .i64 a.id,.int .i64 a.bal,.int .i64 a.seq],fun a=>Wi a.id∧Wi a.bal∧Wi a.seq,fun _=>rfl,fun a u hu=>by simp at hu;rcases hu with rfl|rfl|rfl<;>rfl,by decide⟩
def lnR:Rec Ln:=⟨5,fun a=>[.int .i64 a.acc,.string (bL a.ast.code),.int .i64 a.ast.iss,.int .i64 a.bal,.int .i64 a.lim],fun a=>Wi a.acc∧Wi a.ast.iss∧Wi a.bal∧Wi a.lim,fun _=>rfl,fun a u hu=>by simp at hu;rcases hu with rfl|rfl|rfl|rfl|rfl<;>rfl,by decide⟩
def ofR:Rec Ofr:=⟨9,fun a=>[.int .i64 a.id,.int .i64 a.sel,.string (bL a.sg.code),.int .i64 a.sg.iss,.string (bL a.by_.code),.int .i64 a.by_.iss,.int .i64 a.amt,.int .i64 a.num,.int .i64 a.den],fun a=>Wi a.id∧Wi a.sel∧Wi a.sg.iss∧Wi a.by_.iss∧Wi a.amt∧Wi a.num∧Wi a.den,fun _=>rfl,fun a u hu=>by simp at hu;rcases hu with rfl|rfl|rfl|rfl|rfl|rfl|rfl|rfl|rfl<;>rfl,by decide⟩
def cB:Rec Ast:=⟨2,fun a=>[.string (bL a.code),.int .i64 a.iss],fun a=>Wi a.iss,fun _=>rfl,fun a u hu=>by simp at hu;rcases hu with rfl|rfl<;>rfl,by decide⟩
theorem aN{r:Option Nat}{w:World}{v:Value}{l:List aQ}(h:SlR aP w r v l):
  ∃A c,v= .slice A l.length c∧l.length≤c∧c≤9223372036854775807∧(0<l.length→∃b off,A=some ⟨b,off,none⟩∧b<w.heap.size∧some b≠r∧∀k (hk:k<l.length),w.cell? ⟨b,off+k*3,none⟩=some (.int .i64 l[k].id)∧w.cell? ⟨b,off+k*3+1,none⟩=some (.int .i64 l[k].bal)∧w.cell? ⟨b,off+k*3+2,none⟩=some (.int .i64 l[k].seq)):=by
 obtain⟨A,c,h1,h2,h3,h4⟩:=h.open_;refine⟨A,c,h1,h2,h3,fun hn=>?_⟩;obtain⟨b,off,e,h5,h6,hx⟩:=h4 hn;exact⟨b,off,e,h5,h6,fun k hk=>⟨hx k hk 0 _ rfl,hx k hk 1 _ rfl,hx k hk 2 _ rfl⟩⟩
theorem aU{r:Option Nat}{w:World}{v:Value}{l:List Ln}(h:SlR lnR w r v l):
  ∃A c,v= .slice A l.length c∧l.length≤c∧c≤9223372036854775807∧(0<l.length→∃b off,A=some ⟨b,off,none⟩∧b<w.heap.size∧some b≠r∧∀k (hk:k<l.length),w.cell? ⟨b,off+k*5,none⟩=some (.int .i64 l[k].acc)∧w.cell? ⟨b,off+k*5+1,none⟩=some (.string (bL l[k].ast.code))∧w.cell? ⟨b,off+k*5+2,none⟩=some (.int .i64 l[k].ast.iss)∧w.cell? ⟨b,off+k*5+3,none⟩=some (.int .i64 l[k].bal)∧w.cell? ⟨b,off+k*5+4,none⟩=some (.int .i64 l[k].lim)):=by
 obtain⟨A,c,h1,h2,h3,h4⟩:=h.open_;refine⟨A,c,h1,h2,h3,fun hn=>?_⟩;obtain⟨b,off,e,h5,h6,hx⟩:=h4 hn;exact⟨b,off,e,h5,h6,fun k hk=>⟨hx k hk 0 _ rfl,hx k hk 1 _ rfl,hx k hk 2 _ rfl,hx k hk 3 _ rfl,hx k hk 4 _ rfl⟩⟩
theorem bA{r:Option Nat}{w:World}{v:Value}{l:List Ofr}(h:SlR ofR w r v l):
  ∃A c,v= .slice A l.length c∧l.length≤c∧c≤9223372036854775807∧(0<l.length→∃b off,A=some ⟨b,off,none⟩∧b<w.heap.size∧some b≠r∧∀k (hk:k<l.length),w.cell? ⟨b,off+k*9,none⟩=some (.int .i64 l[k].id)∧w.cell? ⟨b,off+k*9+1,none⟩=some (.int .i64 l[k].sel)∧w.cell? ⟨b,off+k*9+2,none⟩=some (.string (bL l[k].sg.code))∧w.cell? ⟨b,off+k*9+3,none⟩=some (.int .i64 l[k].sg.iss)∧w.cell? ⟨b,off+k*9+4,none⟩=some (.string (bL l[k].by_.code))∧w.cell? ⟨b,off+k*9+5,none⟩=some (.int .i64 l[k].by_.iss)∧w.cell? ⟨b,off+k*9+6,none⟩=some (.int .i64 l[k].amt)∧w.cell? ⟨b,off+k*9+7,none⟩=some (.int .i64 l[k].num)∧w.cell? ⟨b,off+k*9+8,none⟩=some (.int .i64 l[k].den)):=by
 obtain⟨A,c,h1,h2,h3,h4⟩:=h.open_;refine⟨A,c,h1,h2,h3,fun hn=>?_⟩;obtain⟨b,off,e,h5,h6,hx⟩:=h4 hn;exact⟨b,off,e,h5,h6,fun k hk=>⟨hx k hk 0 _ rfl,hx k hk 1 _ rfl,hx k hk 2 _ rfl,hx k hk 3 _ rfl,hx k hk 4 _ rfl,hx k hk 5 _ rfl,hx k hk 6 _ rfl,hx k hk 7 _ rfl,hx k hk 8 _ rfl⟩⟩
theorem iJ{r:Option Nat}{w:World}{v:Value}{l:List Ast}(h:SlR cB w r v l):
  ∃A c,v= .slice A l.length c∧l.length≤c∧c≤9223372036854775807∧(0<l.length→∃b off,A=some ⟨b,off,none⟩∧b<w.heap.size∧some b≠r∧∀k (hk:k<l.length),w.cell? ⟨b,off+k*2,none⟩=some (.string (bL l[k].code))∧w.cell? ⟨b,off+k*2+1,none⟩=some (.int .i64 l[k].iss)):=by
 obtain⟨A,c,h1,h2,h3,h4⟩:=h.open_;refine⟨A,c,h1,h2,h3,fun hn=>?_⟩;obtain⟨b,off,e,h5,h6,hx⟩:=h4 hn;exact⟨b,off,e,h5,h6,fun k hk=>⟨hx k hk 0 _ rfl,hx k hk 1 _ rfl⟩⟩
def LgS(w:World)(r:Option Nat)(g:Lgr)(va vl vo:Value):Prop:=SlR aP w r va g.accs∧SlR lnR w r vl g.lines∧SlR ofR w r vo g.offers∧Wi g.num∧Wi g.nid∧Wi g.fees∧g.link<18446744073709551616
theorem LgS.fr{r:Option Nat}{w w':World}{g:Lgr}{va vl vo:Value}(h:LgS w r g va vl vo)(f:Fr r w w'):LgS w' r g va vl vo:=⟨h.1.fr f,h.2.1.fr f,h.2.2.1.fr f,h.2.2.2⟩
theorem LgS.weak{r:Option Nat}{w:World}{g:Lgr}{va vl vo:Value}(h:LgS w r g va vl vo):LgS w none g va vl vo:=⟨h.1.weak,h.2.1.weak,h.2.2.1.weak,h.2.2.2⟩
theorem LgS.fresh{w w':World}{k:Nat}{g:Lgr}{va vl vo:Value}(h:LgS w none g va vl vo)(f:Fr none w w')(hg:w.heap.size≤k):LgS w' (some k) g va vl vo:=⟨h.1.fresh f hg,h.2.1.fresh f hg,h.2.2.1.fresh f hg,h.2.2.2⟩
def dG{α:Type}(p:α→Bool)(l:List α):Int:=match l.findIdx? p with
 |some i=>(i:Int)
 |none=> -1
theorem nV{α:Type}{p:α→Bool}{l:List α}{k:Nat}(hk:k<l.length)(h:p l[k]=true)(hb:∀j (hj:j<l.length),j<k→p l[j]=false):dG p l=(k:Int):=by
 have:l.findIdx? p=some k:=List.findIdx?_eq_some_iff_getElem.2 ⟨hk,h,fun j hj=>by rw[hb j (by omega) hj];simp⟩;unfold dG;rw[this]
theorem eY{α:Type}{p:α→Bool}{l:List α}(hb:∀j (hj:j<l.length),p l[j]=false):dG p l= -1:=by
 have:l.findIdx? p=none:=List.findIdx?_eq_none_iff.2 fun x hx=>by
  obtain⟨j,hj,rfl⟩:=List.getElem_of_mem hx;exact hb j hj
 unfold dG;rw[this]
theorem fI{α:Type}(p:α→Bool)(l:List α):(dG p l= -1∧l.find? p=none)∨∃k,∃hk:k<l.length,dG p l=(k:Int)∧l.find? p=some l[k]∧p l[k]=true:=by
 unfold dG;cases h:l.findIdx? p with
 |none=>
  refine .inl ⟨rfl,List.find?_eq_none.2 fun x hx=>?_⟩;have:=List.findIdx?_eq_none_iff.1 h x hx;simp[this]
 |some k=>
  obtain⟨hk,h1,h2⟩:=List.findIdx?_eq_some_iff_getElem.1 h;refine .inr ⟨k,hk,rfl,?_,h1⟩;rw[List.find?_eq_some_iff_getElem];exact⟨h1,k,hk,rfl,fun j hj=>by have:=h2 j hj;simpa using this⟩
def aX(n:Int):Bool:=decide (0≤n∧n≤1000000000000)
def bX(n d:Int):Bool:=decide (1≤n∧n≤1000000∧1≤d∧d≤1000000)
def cI(n d:Int):Int × Int:=if bX n d=true then(((n.toNat/Nat.gcd n.toNat d.toNat:Nat):Int),((d.toNat/Nat.gcd n.toNat d.toNat:Nat):Int)) else(0,0)
def aV(a:Ast):Bool:=decide (a=nat)||(decide (1≤a.code.length∧a.code.length≤4∧1≤a.iss∧a.iss≤1000)&&a.code.all fun c=>decide (65≤c.toNat∧c.toNat≤90))
def ltL(a b:List UInt8):Bool:=Op.bytesLess a b
def eK(a b:Ast):Bool:=ltL a.code b.code||(decide (a.code=b.code)&&decide (a.iss<b.iss))
def bV{α:Type}(f:Option α→α→Bool):Option α→List α→Bool
 |_,[]=>true
 |b,x::r=>f b x&&bV f (some x) r
def bK{α:Type}(l:List α)(k:Nat):Option α:=if k=0 then none else l[k - 1]?
theorem dU{α:Type}(f:Option α→α→Bool):∀(l:List α) (b:Option α),(bV f b l=true↔∀k (hk:k<l.length),f (if k=0 then b else l[k - 1]?) l[k]=true)
 |[],b=>by simp[bV]
 |x::r,b=>by
  unfold bV;rw[Bool.and_eq_true,dU f r (some x)];constructor
  ·rintro⟨h1,h2⟩ k hk;cases k with
   |zero=>simpa using h1
   |succ k=>
    have:=h2 k (by simpa using hk);cases k with
    |zero=>simpa using this
    |succ k=>simpa using this
  intro h;refine⟨h 0 (Nat.zero_lt_succ _),fun k hk=>?_⟩;have:=h (k+1) (by simpa using hk);cases k with
  |zero=>simpa using this
  |succ k=>simpa using this
theorem eZ{α:Type}{f:Option α→α→Bool}{l:List α}(h:∀k (hk:k<l.length),f (bK l k) l[k]=true):bV f none l=true:=(dU f l none).2 h
theorem gC{α:Type}{f:Option α→α→Bool}{l:List α}{k:Nat}(hk:k<l.length)(h:f (bK l k) l[k]=false):bV f none l=false:=by
 cases e:bV f none l with
 |false=>rfl
 |true=>
  have:=(dU f l none).1 e k hk;unfold bK at h;rw[this] at h;cases h
def nP(a:aQ):Bool:=decide (1≤a.id∧a.id≤1000)&&(aX a.bal&&decide (0≤a.seq∧a.seq≤1000000))
def iX(b:Option aQ)(a:aQ):Bool:=nP a&&(match b with|some b=>decide (b.id<a.id)|none=>true)
def cC(l:List aQ):Int:=if 20<l.length then 3 else if bV iX none l=true then 0 else 74
def isA(id:Int)(a:aQ):Bool:=decide (a.id=id)
def aK(l:List aQ)(id:Int):Option aQ:=l.find? (isA id)
def eP(x:Ln)(acc:Int)(a:Ast):Bool:=decide (x.acc<acc)||(decide (x.acc=acc)&&eK x.ast a)
def iK(accs:List aQ)(b:Option Ln)(x:Ln):Bool:=(aK accs x.acc).isSome&&(aV x.ast&&(decide (x.ast≠nat)&&(decide (x.ast.iss≠x.acc)&&(aX x.lim&&(decide (0≤x.bal∧x.bal≤x.lim)&&(match b with|some b=>eP b x.acc x.ast|none=>true))))))
def bW(l:List Ln)(accs:List aQ):Int:=if cC accs≠0 then cC accs else if 60<l.length then 3 else if bV (iK accs) none l=true then 0 else 74
def isL(acc:Int)(a:Ast)(x:Ln):Bool:=decide (x.acc=acc∧x.ast=a)
def bS(l:List Ln)(acc:Int)(a:Ast):Option Ln:=l.find? (isL acc a)
def fJ(g:Lgr)(b:Option Ofr)(o:Ofr):Bool:=(aK g.accs o.sel).isSome&&(decide (1≤o.id∧o.id<g.nid)&&((match b with|some b=>decide (b.id<o.id)|none=>true)&&(aV o.sg&&(aV o.by_&&(decide (o.sg≠o.by_)&&(decide (1≤o.amt)&&(aX o.amt&&decide (cI o.num o.den=(o.num,o.den)∧o.num≠0))))))))
def dI(g:Lgr):Bool:=decide (1≤g.nid∧g.nid≤1000000)&&(aX g.fees&&decide (0≤g.num∧g.num≤1000000))
def aH(g:Lgr):Int:=if bW g.lines g.accs≠0 then bW g.lines g.accs else if 40<g.offers.length then 3 else if dI g=true∧bV (fJ g) none g.offers=true then 0 else 74
def fG(g:Lgr)(acc:Int)(a:Ast):Int:=if bW g.lines g.accs≠0 then 0 else match aK g.accs acc with
 |none=>0
 |some x=>if aV a=false then 0 else if a=nat then x.bal else if a.iss=acc then 1000000000000 else match bS g.lines acc a with
  |some l=>l.bal
  |none=>0
def dV(g:Lgr)(acc:Int)(a:Ast):Bool:=decide (a=nat)||(decide (a.iss=acc)||(bS g.lines acc a).isSome)
def lg0:Lgr:=⟨0,[],[],[],0,0,0⟩
def dM(g:Lgr)(s:Int)(sg by_:Ast)(amt n d:Int):Int:=
 if aH g≠0 then aH g else if(aK g.accs s).isSome=false then 67 else if aV sg=false∨aV by_=false∨sg=by_ then 71 else if amt<1∨aX amt=false∨bX n d=false then 72 else if dV g s sg=false∨dV g s by_=false then 70 else if fG g s sg=0 then 66 else if g.offers.length=40∨g.nid=1000000 then 3 else 0
def jJ(g:Lgr)(s:Int)(sg by_:Ast)(amt n d:Int):Lgr:=
 {g with offers:=g.offers++[⟨g.nid,s,sg,by_,amt,(cI n d).1,(cI n d).2⟩],nid:=g.nid+1}
def usd:Ast:=⟨[85,83,68],1⟩
def eur:Ast:=⟨[69,85,82],2⟩
def GA(l:List aQ):Prop:=∀k (hk:k<l.length),l[k].id=(k:Int)+1∧0≤l[k].bal∧l[k].bal≤1000∧0≤l[k].seq∧l[k].seq≤2
theorem GA.snoc{l:List aQ}{x:aQ}(h:GA l)(h1:x.id=(l.length:Int)+1)(h2:0≤x.bal∧x.bal≤1000)(h3:0≤x.seq∧x.seq≤2):GA (l++[x]):=by
 intro k hk;rw[List.getElem_append];split
 ·rename_i h';exact h k h'
 rename_i h';have:k=l.length:=by simp at hk;omega
 subst this;simp only[Nat.sub_self,List.getElem_cons_zero];exact⟨h1,h2.1,h2.2,h3.1,h3.2⟩
theorem sX{n:Int}(h:0≤n∧n≤1000000000000):aX n=true:=by unfold aX;rw[decide_eq_true_iff];exact h
theorem GA.chk{l:List aQ}(h:GA l)(hl:l.length≤20):cC l=0:=by
 unfold cC;rw[if_neg (by omega),if_pos];refine eZ fun k hk=>?_;obtain⟨h1,h2,h3,h4,h5⟩:=h k hk;unfold iX nP;rw[Bool.and_eq_true,Bool.and_eq_true,Bool.and_eq_true,decide_eq_true_iff,decide_eq_true_iff];refine⟨⟨by omega,sX (by omega),by omega⟩,?_⟩;unfold bK;split
 ·rename_i b hb;split at hb
  ·cases hb
  rename_i hk0;rw[List.getElem?_eq_getElem (by omega)] at hb;injection hb with hb
  have:=(h (k - 1) (by omega)).1;rw[←hb,decide_eq_true_iff];omega
 rfl
theorem GA.find{l:List aQ}(h:GA l){i:Int}(h1:1≤i)(h2:i≤l.length):(aK l i).isSome=true:=by
 unfold aK;rw[List.find?_isSome];obtain⟨k,hk⟩:=Int.eq_ofNat_of_zero_le (show 0≤i - 1 by omega);have hk':k<l.length:=by omega
 refine⟨l[k],List.getElem_mem hk',?_⟩;unfold isA;rw[decide_eq_true_iff,(h k hk').1];omega
theorem nI{α:Type}{f:Option α→α→Bool}:∀(l:List α) (b:Option α) (x:α),bV f b l=true→f (l.getLast?.or b) x=true→bV f b (l++[x])=true
 |[],b,x,_,h=>by
  show(f b x&&true)=true;rw[Bool.and_true];simpa using h
 |y::r,b,x,h,hx=>by
  rw[List.cons_append];unfold bV at h ⊢;rw[Bool.and_eq_true] at h ⊢;refine⟨h.1,nI r (some y) x h.2 ?_⟩;rw[List.getLast?_cons] at hx;cases hr:r.getLast? with
  |none=>rw[hr] at hx;exact hx
  |some z=>rw[hr] at hx;exact hx
theorem pE{α:Type}{f:Option α→α→Bool}{l:List α}{x:α}(h:bV f none l=true)(hx:f l.getLast? x=true):bV f none (l++[x])=true:=nI l none x h (by simpa using hx)
structure GL (accs:List aQ) (i j:Nat) (l:List Ln):Prop where
 ok:bV (iK accs) none l=true
 lt:∀x ∈ l,x.acc<(i:Int)+1∨(x.acc=(i:Int)+1∧1≤j∧x.ast=eur)∨(x.acc=(i:Int)+1∧2≤j)
 len:l.length≤2*i+j
theorem GL.zero(accs:List aQ):GL accs 0 0 []:=⟨rfl,by simp,by simp⟩
theorem GL.skip{accs:List aQ}{i j:Nat}{l:List Ln}(h:GL accs i j l):GL accs i (j+1) l:=
 ⟨h.ok,fun x hx=>by
  rcases h.lt x hx with h1|⟨h1,h2,h3⟩|⟨h1,h2⟩
  ·exact .inl h1
  ·exact .inr (.inl ⟨h1,by omega,h3⟩)
  exact .inr (.inr ⟨h1,by omega⟩),by have:=h.len;omega⟩
theorem GL.next{accs:List aQ}{i:Nat}{l:List Ln}(h:GL accs i 2 l):GL accs (i+1) 0 l:=
 ⟨h.ok,fun x hx=>by
  refine .inl ?_;rcases h.lt x hx with h1|⟨h1,h2,h3⟩|⟨h1,h2⟩<;>omega,by have:=h.len;omega⟩
theorem GL.add{accs:List aQ}{i j:Nat}{l:List Ln}{a:Ast}{bal lim:Int}(h:GL accs i j l)(hj:(j=0∧a=eur)∨(j=1∧a=usd))(ha:a.iss≠(i:Int)+1)(hA:GA accs)(hi:(i:Int)+1≤accs.length)(hb:0≤bal∧bal≤lim)(hl:lim≤1000000000000):GL accs i (j+1) (l++[⟨(i:Int)+1,a,bal,lim⟩]):=by
 refine⟨pE h.ok ?_,fun x hx=>?_,by have:=h.len;simp;omega⟩
 ·unfold iK;have h1:aV a=true:=by rcases hj with⟨_,rfl⟩|⟨_,rfl⟩<;>decide
  have h2:a≠nat:=by rcases hj with⟨_,rfl⟩|⟨_,rfl⟩<;>decide
  simp only[Bool.and_eq_true,decide_eq_true_eq];refine⟨hA.find (by omega) hi,h1,h2,ha,sX (by omega),hb,?_⟩;split
  ·rename_i b hbl;have hm:=List.mem_of_getLast? hbl;unfold eP;rw[Bool.or_eq_true,Bool.and_eq_true,decide_eq_true_iff,decide_eq_true_iff];rcases h.lt b hm with h3|⟨h3,h4,h5⟩|⟨h3,h4⟩
   ·exact .inl h3
   ·refine .inr ⟨h3,?_⟩;have:a=usd:=by rcases hj with⟨h0,_⟩|⟨_,h0⟩;omega;exact h0
    rw[h5,this];decide
   omega
  rfl
 rcases List.mem_append.1 hx with hx|hx
 ·rcases h.lt x hx with h1|⟨h1,h2,h3⟩|⟨h1,h2⟩
  ·exact .inl h1
  ·exact .inr (.inl ⟨h1,by omega,h3⟩)
  exact .inr (.inr ⟨h1,by omega⟩)
 obtain rfl:=List.mem_singleton.1 hx;rcases hj with⟨h0,h1⟩|⟨h0,h1⟩
 ·exact .inr (.inl ⟨rfl,by omega,h1⟩)
 exact .inr (.inr ⟨rfl,by omega⟩)
theorem GL.chk{accs:List aQ}{i j:Nat}{l:List Ln}(h:GL accs i j l)(hA:GA accs)(h20:accs.length≤20)(h60:2*i+j≤60):bW l accs=0:=by
 unfold bW;rw[if_neg (fun e=>e (hA.chk h20)),if_neg (by have:=h.len;omega),if_pos h.ok]
theorem zT{g:Lgr}(h1:bW g.lines g.accs=0)(h2:g.offers=[])(h3:1≤g.nid∧g.nid≤1000000)(h4:0≤g.fees∧g.fees≤1000000000000)(h5:0≤g.num∧g.num≤1000000):aH g=0:=by
 unfold aH;rw[if_neg (fun e=>e h1),h2,if_neg (by simp),if_pos];refine⟨?_,rfl⟩;unfold dI;rw[decide_eq_true h3,sX h4,decide_eq_true h5];rfl
theorem xA{n d:Int}(h:bX n d=true):cI (cI n d).1 (cI n d).2=((cI n d).1,(cI n d).2)∧(cI n d).1≠0:=by
 have h0:=h;unfold bX at h;rw[decide_eq_true_iff] at h;obtain⟨a,rfl⟩:=Int.eq_ofNat_of_zero_le (show 0≤n by omega);obtain⟨b,rfl⟩:=Int.eq_ofNat_of_zero_le (show 0≤d by omega);have ha:1≤a:=by omega
 have hb:1≤b:=by omega
 have e:cI (a:Int) (b:Int)=(((a/Nat.gcd a b:Nat):Int),((b/Nat.gcd a b:Nat):Int)):=by
  unfold cI;rw[if_pos h0];rfl
 have hg:0<Nat.gcd a b:=Nat.gcd_pos_of_pos_left _ (by omega);have hc:Nat.gcd (a/Nat.gcd a b) (b/Nat.gcd a b)=1:=Nat.coprime_div_gcd_div_gcd hg;have h1:1≤a/Nat.gcd a b:=Nat.div_pos (Nat.le_of_dvd (by omega) (Nat.gcd_dvd_left a b)) hg;have h2:1≤b/Nat.gcd a b:=Nat.div_pos (Nat.le_of_dvd (by omega) (Nat.gcd_dvd_right a b)) hg;have h3:=Nat.div_le_self a (Nat.gcd a b);have h4:=Nat.div_le_self b (Nat.gcd a b);rw[e];simp only;generalize a/Nat.gcd a b=u at*
 generalize b/Nat.gcd a b=v at*
 refine⟨?_,by omega⟩;have hv:bX (u:Int) (v:Int)=true:=by unfold bX;rw[decide_eq_true_iff];omega
 unfold cI;rw[if_pos hv];simp only[Int.toNat_natCast,hc,Nat.div_one]
theorem yH{g:Lgr}{s:Int}{sg by_:Ast}{amt n d:Int}(h:dM g s sg by_ amt n d=0):aH (jJ g s sg by_ amt n d)=0:=by
 unfold dM at h;split at h
 ·rename_i h1;exact absurd h h1
 rename_i h1;have h1:aH g=0:=Classical.not_not.1 h1;split at h
 ·cases h
 rename_i h2;split at h
 ·cases h
 rename_i h3;split at h
 ·cases h
 rename_i h4;split at h
 ·cases h
 rename_i h5;split at h
 ·cases h
 rename_i h6;split at h
 ·cases h
 rename_i h7;have h7a:¬g.offers.length=40:=fun e=>h7 (.inl e);have h7b:¬g.nid=1000000:=fun e=>h7 (.inr e);have h3a:aV sg=true:=by cases e:aV sg;exact absurd (.inl e) h3;rfl
 have h3b:aV by_=true:=by cases e:aV by_;exact absurd (.inr (.inl e)) h3;rfl
 have h3c:sg≠by_:=fun e=>h3 (.inr (.inr e));have h4a:1≤amt:=by
  rcases Int.lt_or_le amt 1 with e|e
  ·exact absurd (.inl e) h4
  exact e
 have h4b:aX amt=true:=by cases e:aX amt;exact absurd (.inr (.inl e)) h4;rfl
 have h4c:bX n d=true:=by cases e:bX n d;exact absurd (.inr (.inr e)) h4;rfl
 have h2a:(aK g.accs s).isSome=true:=by cases e:(aK g.accs s).isSome;exact absurd e h2;rfl
 unfold aH at h1;split at h1
 ·rename_i e;exact absurd h1 e
 rename_i hln;split at h1
 ·cases h1
 rename_i hlen;split at h1;rotate_left
 ·cases h1
 rename_i hok;obtain⟨hlg,hall⟩:=hok;unfold dI at hlg;rw[Bool.and_eq_true,Bool.and_eq_true,decide_eq_true_iff,decide_eq_true_iff] at hlg;unfold aH;have hacc:(jJ g s sg by_ amt n d).accs=g.accs:=rfl;have hlin:(jJ g s sg by_ amt n d).lines=g.lines:=rfl;rw[hacc,hlin,if_neg hln,if_neg (by show ¬40<(g.offers++[_]).length;simp;omega),if_pos];refine⟨?_,?_⟩
 ·unfold dI;have e1:(jJ g s sg by_ amt n d).nid=g.nid+1:=rfl;have e2:(jJ g s sg by_ amt n d).fees=g.fees:=rfl;have e3:(jJ g s sg by_ amt n d).num=g.num:=rfl;rw[e1,e2,e3,hlg.2.1,decide_eq_true hlg.2.2,decide_eq_true (by omega)];rfl
 have hmono:∀b x,fJ g b x=true→fJ (jJ g s sg by_ amt n d) b x=true:=by
  intro b x hx;unfold fJ at hx ⊢;have e1:(jJ g s sg by_ amt n d).nid=g.nid+1:=rfl;rw[hacc,e1];rw[Bool.and_eq_true,Bool.and_eq_true,decide_eq_true_iff] at hx;rw[hx.1,hx.2.2,decide_eq_true (by omega)];rfl
 have hall2:bV (fJ (jJ g s sg by_ amt n d)) none g.offers=true:=by
  rw[dU] at hall ⊢;exact fun k hk=>hmono _ _ (hall k hk)
 refine pE hall2 ?_;obtain⟨r1,r2⟩:=xA h4c;unfold fJ;have e1:(jJ g s sg by_ amt n d).nid=g.nid+1:=rfl;rw[hacc,e1];simp only;rw[h2a,h3a,h3b,h4b,decide_eq_true (show 1≤g.nid∧g.nid<g.nid+1 by omega),decide_eq_true h3c,decide_eq_true h4a,decide_eq_true ⟨r1,r2⟩];have hp:(match g.offers.getLast? with|some b=>decide (b.id<g.nid)|none=>true)=true:=by
  split
  ·rename_i b hb;have hm:=List.mem_of_getLast? hb;obtain⟨k,hk,rfl⟩:=List.getElem_of_mem hm;have:=(dU _ _ _).1 hall k hk;unfold fJ at this;rw[Bool.and_eq_true,Bool.and_eq_true,decide_eq_true_iff] at this;rw[decide_eq_true_iff];exact this.2.1.2
  rfl
 cases hg:g.offers.getLast? with
 |none=>rfl
 |some b=>rw[hg] at hp;simp only[Bool.true_and,Bool.and_true];exact hp
theorem GA.ok{l:List aQ}(h:GA l)(hl:l.length≤20):∀x ∈ l,aP.ok x:=fun x hx=>by
 obtain⟨q,hq,rfl⟩:=List.getElem_of_mem hx;obtain⟨v1,v2,v3,v4,v5⟩:=h q hq;generalize l[q]=y at*
 show Wi y.id∧Wi y.bal∧Wi y.seq;refine⟨?_,?_,?_⟩<;>constructor<;>omega
theorem DP{accs:List aQ}{l:List Ln}(hA:GA accs)(hl:accs.length≤20)(h:bV (iK accs) none l=true):∀x ∈ l,lnR.ok x:=fun x hx=>by
 obtain⟨k,hk,rfl⟩:=List.getElem_of_mem hx;have h1:=(dU _ _ _).1 h k hk;generalize l[k]=x at*
 unfold iK at h1;simp only[Bool.and_eq_true,decide_eq_true_eq] at h1;obtain⟨h1,h2,h3,h4,h5,h6,h7⟩:=h1;have ha:Wi x.acc:=by
  unfold aK at h1;rw[List.find?_isSome] at h1;obtain⟨y,hy,hy2⟩:=h1;obtain⟨q,hq,rfl⟩:=List.getElem_of_mem hy;unfold isA at hy2;rw[decide_eq_true_iff] at hy2;have:=(hA q hq).1;constructor<;>omega
 have hi:Wi x.ast.iss:=by
  unfold aV at h2;rw[Bool.or_eq_true,Bool.and_eq_true,decide_eq_true_iff,decide_eq_true_iff] at h2;rcases h2 with h2|⟨h2,_⟩
  ·rw[h2];constructor<;>decide
  constructor<;>omega
 unfold aX at h5;rw[decide_eq_true_iff] at h5;exact⟨ha,hi,by constructor<;>omega,by constructor<;>omega⟩
end Go.Proofs.YthaggndnfamhjaaGreatDoor
namespace Go.Proofs.YthaggndnfamhjaaGreatDoor
open Go Go.RowKit
structure EvN (ops:Array Oper) (a0:Act) (i:Nat) (os:List Nat) (vs:List Value) (ev:Operand→Value):Prop where
 const:∀v,ev (.const v)=v
 func:∀f,ev (.func f)= .func (.func f) #[] #[]
 glob:∀g,ev (.global g)= .pointer (some ⟨g,0,none⟩)
 tmp:∀m j d,os[m]?=some j→bE ops j=some d→cE ops i j=true→ev (.tmp d)=aG vs m
 out:∀t,fF ops t=true→ev (.tmp t)=a0.eval (.tmp t)
theorem EvN.get{ops:Array Oper}{a0:Act}{i:Nat}{os:List Nat}{vs:List Value}{ev:Operand→Value}(E:EvN ops a0 i os vs ev):∀(l:List (Nat × Nat × Nat)) (o:List Nat),(l.all (fun x=>os[x.1]? == some x.2.1&&(bE ops x.2.1 == some x.2.2&&cE ops i x.2.1))&&o.all (fF ops))=true→evT ev vs l (evU ev a0 o (evC ev))
 |[],o,h=>wW E.out ⟨E.const,E.func,E.glob⟩ o (by simpa using h)
 |(m,j,d)::r,o,h=>by
  rw[List.all_cons,Bool.and_eq_true,Bool.and_eq_true,Bool.and_eq_true,Bool.and_eq_true,beq_iff_eq,beq_iff_eq] at h;exact⟨E.tmp m j d h.1.1.1 h.1.1.2.1 h.1.1.2.2,EvN.get E r o (by rw[Bool.and_eq_true];exact⟨h.1.2,h.2⟩)⟩
def Gb(P:Program)(o:Oper)(ev:Operand→Value)(w:World)(T:Value→World→Prop):Prop:=
 (∃v w',(execOp ev o).run P w= .ok (.value v) w'∧T v w')∨(∃w',(execOp ev o).run P w= .ok .skip w'∧T undef w')∨
 (∃f args w',(execOp ev o).run P w= .ok (.enter f args) w'∧Calls P f args w' fun e w''=>∃v,e= .returned v∧T v w'')
def bM(P:Program)(Pre:World→Prop)(ops:Array Oper)(a0:Act)(os:List Nat)(vs:List Value)(i:Nat)(o:Oper)(v:Value):Prop:=
 match o.guard with
 |none=>∀ev w,Pre w→EvN ops a0 i os vs ev→(execOp ev o).run P w= .ok (.value v) w
 |some (j,want)=>∃m,os[m]?=some j∧(aG vs m= .bool want→∀ev w,Pre w→EvN ops a0 i os vs ev→(execOp ev o).run P w= .ok (.value v) w)∧(aG vs m≠ .bool want→v=undef)
def jL(P:Program)(S:World→Prop)(ops:Array Oper)(a0:Act)(os:List Nat)(vs:List Value)(i:Nat)(o:Oper)(T:Value→World→Prop):Prop:=
 match o.guard with
 |none=>∀ev w,S w→EvN ops a0 i os vs ev→Gb P o ev w T
 |some (j,want)=>∃m,os[m]?=some j∧(aG vs m= .bool want→∀ev w,S w→EvN ops a0 i os vs ev→Gb P o ev w T)∧(aG vs m≠ .bool want→∀w,S w→T undef w)
def FxN(P:Program)(ops:Array Oper)(eff:List Nat)(a0:Act)(K:List Value→World→Prop):List Nat→List Nat→List Value→(World→Prop)→(World→Prop)→List Nat→Prop
  |[],_,vs,S,_,_=>∀W,S W→K vs W
  |i::r,os,vs,S,G,gl=>∃o,ops[i]?=some o∧
    ((eff.contains i=false∧∃v,bM P (fun _=>True) ops a0 os vs i o v∧FxN P ops eff a0 K r (i::os) (v::vs) S G gl)∨
     (eff.contains i=false∧∃v,bM P G ops a0 os vs i o v∧FxN P ops eff a0 K r (i::os) (v::vs) S G (i::gl))∨
     (eff.contains i=false∧(r.all fun e=> !eff.contains e||(dJ ops e).contains i)=true∧∃v,bM P S ops a0 os vs i o v∧FxN P ops eff a0 K r (i::os) (v::vs) S G gl)∨
     (eff.contains i=true∧(r.all fun k=>(dJ ops k).contains i)=true∧∃T:Value→World→Prop,jL P S ops a0 os vs i o T∧
       ∃(G':Value→World→Prop) (gl':List Nat),((gl'=gl∧∀v w,T v w→G w∧G' v=G)∨(gl'=[]∧(gl.all fun j=>(dJ ops i).contains j)=true∧∀v w,T v w→G' v w))∧∀v w0,T v w0→FxN P ops eff a0 K r (i::os) (v::vs) (T v) (G' v) gl'))
theorem bM.weak{P:Program}{S S':World→Prop}{ops:Array Oper}{a0:Act}{os:List Nat}{vs:List Value}{i:Nat}{o:Oper}{v:Value}(hS:∀w,S' w→S w)(h:bM P S ops a0 os vs i o v):bM P S' ops a0 os vs i o v:=by
 unfold bM at h ⊢;cases hg:o.guard with
 |none=>rw[hg] at h;exact fun ev w hw E=>h ev w (hS w hw) E
 |some jw=>rw[hg] at h;obtain⟨m,h1,h2,h3⟩:=h;exact⟨m,h1,fun e ev w hw E=>h2 e ev w (hS w hw) E,h3⟩
theorem jL.weak{P:Program}{S S':World→Prop}{ops:Array Oper}{a0:Act}{os:List Nat}{vs:List Value}{i:Nat}{o:Oper}{T:Value→World→Prop}(hS:∀w,S' w→S w)(h:jL P S ops a0 os vs i o T):jL P S' ops a0 os vs i o T:=by
 unfold jL at h ⊢;cases hg:o.guard with
 |none=>rw[hg] at h;exact fun ev w hw E=>h ev w (hS w hw) E
 |some jw=>rw[hg] at h;obtain⟨m,h1,h2,h3⟩:=h;exact⟨m,h1,fun e ev w hw E=>h2 e ev w (hS w hw) E,fun e w hw=>h3 e w (hS w hw)⟩
theorem FxN.weak{P:Program}{ops:Array Oper}{eff:List Nat}{a0:Act}{K:List Value→World→Prop}{S S':World→Prop}(hS:∀w,S' w→S w):∀(r os:List Nat) (vs:List Value) (G:World→Prop) (gl:List Nat),FxN P ops eff a0 K r os vs S G gl→FxN P ops eff a0 K r os vs S' G gl
 |[],_,_,_,_,h=>fun W hW=>h W (hS W hW)
 |_::r,os,vs,G,gl,h=>by
  obtain⟨o,ho,h⟩:=h;refine⟨o,ho,?_⟩;rcases h with⟨h1,v,h2,h3⟩|⟨h1,v,h2,h3⟩|⟨h1,h4,v,h2,h3⟩|⟨h1,h2,T,h3,h4⟩
  ·exact .inl ⟨h1,v,h2,FxN.weak hS r _ _ _ _ h3⟩
  ·exact .inr (.inl ⟨h1,v,h2,FxN.weak hS r _ _ _ _ h3⟩)
  ·exact .inr (.inr (.inl ⟨h1,h4,v,h2.weak hS,FxN.weak hS r _ _ _ _ h3⟩))
  exact .inr (.inr (.inr ⟨h1,h2,T,h3.weak hS,h4⟩))
section
variable {P:Program} {ops:Array Oper} {G S S':World→Prop} {gl gl':List Nat} {eff:List Nat} {a0:Act} {K:List Value→World→Prop} {o:Oper} {i:Nat} {r os:List Nat} {vs:List Value} {v:Value} {f:FuncId} {args:Array Value} {j:Nat} {want:Bool}
def pL(ops:Array Oper)(i:Nat)(T G:World→Prop)(gl:List Nat)(G':World→Prop)(gl':List Nat):Prop:=(gl'=gl∧(∀w,T w→G w)∧G'=G)∨(gl'=[]∧(gl.all fun j=>(dJ ops i).contains j)=true∧∀w,T w→G' w)
theorem pL.stay{T:World→Prop}(h:∀w,T w→G w):pL ops i T G gl G gl:=.inl ⟨rfl,h,rfl⟩
theorem pL.new{T G':World→Prop}(hb:(gl.all fun j=>(dJ ops i).contains j)=true)(h:∀w,T w→G' w):pL ops i T G gl G' []:=.inr ⟨rfl,hb,h⟩
theorem FH{T G':World→Prop}(h:pL ops i T G gl G' gl')(u:Value):(gl'=gl∧∀v w,(fun v w=>v=u∧T w) v w→G w∧(fun _=>G') v=G)∨(gl'=[]∧(gl.all fun j=>(dJ ops i).contains j)=true∧∀v w,(fun v w=>v=u∧T w) v w→(fun _=>G') v w):=by
 rcases h with⟨h1,h2,h3⟩|⟨h1,h2,h3⟩
 ·exact .inl ⟨h1,fun v w h=>⟨h2 w h.2,h3⟩⟩
 exact .inr ⟨h1,h2,fun v w h=>h3 w h.2⟩
theorem FxN.done(h:∀W,S W→K vs W):FxN P ops eff a0 K [] os vs S G gl:=h
theorem FxN.pure(ho:ops[i]?=some o)(hg:o.guard=none)(he:eff.contains i=false)(h:∀ev w,EvN ops a0 i os vs ev→(execOp ev o).run P w= .ok (.value v) w)(hr:FxN P ops eff a0 K r (i::os) (v::vs) S G gl):FxN P ops eff a0 K (i::r) os vs S G gl:=
 ⟨o,ho,.inl ⟨he,v,by unfold bM;rw[hg];exact fun ev w _=>h ev w,hr⟩⟩
theorem FxN.gpure(m:Nat)(ho:ops[i]?=some o)(hg:o.guard=some (j,want))(he:eff.contains i=false)(hm:os[m]?=some j)(hj:aG vs m= .bool want)(h:∀ev w,EvN ops a0 i os vs ev→(execOp ev o).run P w= .ok (.value v) w)(hr:FxN P ops eff a0 K r (i::os) (v::vs) S G gl):FxN P ops eff a0 K (i::r) os vs S G gl:=
 ⟨o,ho,.inl ⟨he,v,by unfold bM;rw[hg];exact⟨m,hm,fun _ ev w _=>h ev w,fun e=>absurd hj e⟩,hr⟩⟩
theorem FxN.skip(m:Nat)(ho:ops[i]?=some o)(hg:o.guard=some (j,want))(he:eff.contains i=false)(hm:os[m]?=some j)(hj:aG vs m≠ .bool want)(hr:FxN P ops eff a0 K r (i::os) (undef::vs) S G gl):FxN P ops eff a0 K (i::r) os vs S G gl:=
 ⟨o,ho,.inl ⟨he,undef,by unfold bM;rw[hg];exact⟨m,hm,fun e=>absurd e hj,fun _=>rfl⟩,hr⟩⟩
theorem FxN.load(ho:ops[i]?=some o)(hg:o.guard=none)(he:eff.contains i=false)(h:∀ev w,G w→EvN ops a0 i os vs ev→(execOp ev o).run P w= .ok (.value v) w)(hr:FxN P ops eff a0 K r (i::os) (v::vs) S G (i::gl)):FxN P ops eff a0 K (i::r) os vs S G gl:=
 ⟨o,ho,.inr (.inl ⟨he,v,by unfold bM;rw[hg];exact h,hr⟩)⟩
theorem FxN.gload(m:Nat)(ho:ops[i]?=some o)(hg:o.guard=some (j,want))(he:eff.contains i=false)(hm:os[m]?=some j)(hj:aG vs m= .bool want)(h:∀ev w,G w→EvN ops a0 i os vs ev→(execOp ev o).run P w= .ok (.value v) w)(hr:FxN P ops eff a0 K r (i::os) (v::vs) S G (i::gl)):FxN P ops eff a0 K (i::r) os vs S G gl:=
 ⟨o,ho,.inr (.inl ⟨he,v,by unfold bM;rw[hg];exact⟨m,hm,fun _=>h,fun e=>absurd hj e⟩,hr⟩)⟩
theorem FxN.loadS(ho:ops[i]?=some o)(hg:o.guard=none)(he:eff.contains i=false)(hb:(r.all fun e=> !eff.contains e||(dJ ops e).contains i)=true)(h:∀ev w,S w→EvN ops a0 i os vs ev→(execOp ev o).run P w= .ok (.value v) w)(hr:FxN P ops eff a0 K r (i::os) (v::vs) S G gl):FxN P ops eff a0 K (i::r) os vs S G gl:=
 ⟨o,ho,.inr (.inr (.inl ⟨he,hb,v,by unfold bM;rw[hg];exact h,hr⟩))⟩
theorem FxN.callv{G':World→Prop}(ho:ops[i]?=some o)(hg:o.guard=none)(he:eff.contains i=true)(hc:(r.all fun k=>(dJ ops k).contains i)=true)(h:∀ev w,S w→EvN ops a0 i os vs ev→(execOp ev o).run P w= .ok (.enter f args) w)(hk:∀w,S w→Calls P f args w fun e w''=>e= .returned v∧S' w'')(hG:pL ops i S' G gl G' gl')(hr:FxN P ops eff a0 K r (i::os) (v::vs) S' G' gl'):FxN P ops eff a0 K (i::r) os vs S G gl:=
 ⟨o,ho,.inr (.inr (.inr ⟨he,hc,fun u w=>u=v∧S' w,by unfold jL;rw[hg];exact fun ev w hS E=>.inr (.inr ⟨f,args,w,h ev w hS E,(hk w hS).mono fun e w'' he=>⟨v,he.1,rfl,he.2⟩⟩),fun _=>G',gl',FH hG v,fun u w0 hu=>by obtain⟨rfl,_⟩:=hu;exact FxN.weak (fun w h=>h.2) r _ _ _ _ hr⟩))⟩
theorem FxN.call(T:Value→World→Prop)(ho:ops[i]?=some o)(hg:o.guard=none)(he:eff.contains i=true)(hc:(r.all fun k=>(dJ ops k).contains i)=true)(h:∀ev w,S w→EvN ops a0 i os vs ev→(execOp ev o).run P w= .ok (.enter f args) w)(hk:∀w,S w→Calls P f args w fun e w''=>∃v,e= .returned v∧T v w'')(hG:∀v w,T v w→G w)(hr:∀v w0,T v w0→FxN P ops eff a0 K r (i::os) (v::vs) (T v) G gl):FxN P ops eff a0 K (i::r) os vs S G gl:=
 ⟨o,ho,.inr (.inr (.inr ⟨he,hc,T,by unfold jL;rw[hg];exact fun ev w hS E=>.inr (.inr ⟨f,args,w,h ev w hS E,hk w hS⟩),fun _=>G,gl,.inl ⟨rfl,fun v w h=>⟨hG v w h,rfl⟩⟩,hr⟩))⟩
theorem FxN.new(T:Value→World→Prop)(ho:ops[i]?=some o)(hg:o.guard=none)(he:eff.contains i=true)(hc:(r.all fun k=>(dJ ops k).contains i)=true)(h:∀ev w,S w→EvN ops a0 i os vs ev→∃v w',(execOp ev o).run P w= .ok (.value v) w'∧T v w')(hG:∀v w,T v w→G w)(hr:∀v w0,T v w0→FxN P ops eff a0 K r (i::os) (v::vs) (T v) G gl):FxN P ops eff a0 K (i::r) os vs S G gl:=
 ⟨o,ho,.inr (.inr (.inr ⟨he,hc,T,by unfold jL;rw[hg];exact fun ev w hS E=>.inl (h ev w hS E),fun _=>G,gl,.inl ⟨rfl,fun v w h=>⟨hG v w h,rfl⟩⟩,hr⟩))⟩
theorem FxN.store{G':World→Prop}(ho:ops[i]?=some o)(hg:o.guard=none)(he:eff.contains i=true)(hc:(r.all fun k=>(dJ ops k).contains i)=true)(h:∀ev w,S w→EvN ops a0 i os vs ev→∃w',(execOp ev o).run P w= .ok .skip w'∧S' w')(hG:pL ops i S' G gl G' gl')(hr:FxN P ops eff a0 K r (i::os) (undef::vs) S' G' gl'):FxN P ops eff a0 K (i::r) os vs S G gl:=
 ⟨o,ho,.inr (.inr (.inr ⟨he,hc,fun u w=>u=undef∧S' w,by unfold jL;rw[hg];exact fun ev w hS E=>.inr (.inl (by obtain⟨w',h1,h2⟩:=h ev w hS E;exact⟨w',h1,rfl,h2⟩)),fun _=>G',gl',FH hG undef,fun u w0 hu=>by obtain⟨rfl,_⟩:=hu;exact FxN.weak (fun w h=>h.2) r _ _ _ _ hr⟩))⟩
end
def ObN(P:Program)(ops:Array Oper)(S G:World→Prop)(gl eff:List Nat)(a0:Act)(suf os:List Nat)(vs:List Value)(j:Nat)(v:Value):Prop:=
 ∃o,ops[j]?=some o∧eff.contains j=false∧(bM P (fun _=>True) ops a0 os vs j o v∨(bM P G ops a0 os vs j o v∧j ∈ gl)∨(bM P S ops a0 os vs j o v∧∀e r,suf=e::r→eff.contains e=true→(dJ ops e).contains j=true))
theorem He{p:Prop}(h:p:=by
 refine⟨i::pre,suf,us++[v],gm,by rw[e1];rfl,by simp[e2],?_,fun j hj=>e6 j (hgl j hj),e4,?_⟩
 ·simpa[List.append_assoc] using e3
 intro m j hm hj;have hl:(i::pre).reverse++os=pre.reverse++(i::os):=by simp
 have hl2:us++[v]++vs=us++(v::vs):=by simp
 rw[hl] at hj ⊢;rw[hl2];rcases Nat.lt_or_ge m pre.length with h'|h'
 ·exact e5 m j h' hj
 have hm':m=pre.length:=by simp at hm;omega
 subst hm';have hji:j=i:=by
  rw[List.getElem?_append_right (by simp)] at hj;simpa using hj.symm
 subst hji;have hd1:(pre.reverse++(j::os)).drop (pre.length+1)=os:=by
  rw[show pre.length+1=(pre.reverse++[j]).length by simp,show pre.reverse++(j::os)=(pre.reverse++[j])++os by simp,List.drop_left]
 have hd2:(us++(v::vs)).drop (pre.length+1)=vs:=by
  rw[←e2,show us.length+1=(us++[v]).length by simp,show us++(v::vs)=(us++[v])++vs by simp,List.drop_left]
 have hnv:aG (us++(v::vs)) pre.length=v:=by
  rw[←e2];have:∀us:List Value,aG (us++(v::vs)) us.length=v:=by
   intro us;induction us with
   |nil=>rfl
   |cons x t ih=>exact ih
  exact this us
 rw[hd1,hd2,hnv];refine⟨o,ho,hc,?_⟩;rcases hv with hv|hv|hv
 ·exact .inl hv
 ·exact .inr (.inl ⟨hv.1,e6 j hv.2⟩)
 refine .inr (.inr ⟨hv.1,fun e t hs he=>?_⟩);have h3:=List.all_eq_true.1 hv.2 e (by rw[e1,hs];simp);rw[he] at h3;simpa using h3):p:=h
theorem FxN.adv{P:Program}{ops:Array Oper}{eff:List Nat}{a0:Act}{K:List Value→World→Prop}{S G:World→Prop}:
  ∀(r os:List Nat) (vs:List Value) (gl:List Nat),FxN P ops eff a0 K r os vs S G gl→
   ∃(pre suf:List Nat) (us:List Value) (gm:List Nat),r=pre++suf∧us.length=pre.length∧FxN P ops eff a0 K suf (pre.reverse++os) (us++vs) S G gm∧(∀j ∈ gl,j ∈ gm)∧(∀e t,suf=e::t→eff.contains e=true)∧
    ∀m j,m<pre.length→(pre.reverse++os)[m]?=some j→ObN P ops S G gm eff a0 suf ((pre.reverse++os).drop (m+1)) ((us++vs).drop (m+1)) j (aG (us++vs) m)
 |[],os,vs,gl,h=>⟨[],[],[],gl,rfl,rfl,h,(fun _ h=>h),(fun _ _ h=>by cases h),(fun m j hm=>absurd hm (by simp))⟩
 |i::r,os,vs,gl,h=>by
  cases hc:eff.contains i with
  |true=>exact⟨[],i::r,[],gl,rfl,rfl,h,(fun _ h=>h),(fun e t h=>by injection h with h1;rw[←h1];exact hc),(fun m j hm=>absurd hm (by simp))⟩
  |false=>
   obtain⟨o,ho,h⟩:=h;have key:∃v gl',(bM P (fun _=>True) ops a0 os vs i o v∨(bM P G ops a0 os vs i o v∧i ∈ gl')∨(bM P S ops a0 os vs i o v∧(r.all fun e=> !eff.contains e||(dJ ops e).contains i)=true))∧(∀j ∈ gl,j ∈ gl')∧FxN P ops eff a0 K r (i::os) (v::vs) S G gl':=by
    rcases h with⟨_,v,h1,h2⟩|⟨_,v,h1,h2⟩|⟨_,hb,v,h1,h2⟩|⟨h1,_⟩
    ·exact⟨v,gl,.inl h1,fun _ h=>h,h2⟩
    ·exact⟨v,i::gl,.inr (.inl ⟨h1,by simp⟩),fun _ h=>List.mem_cons_of_mem _ h,h2⟩
    ·exact⟨v,gl,.inr (.inr ⟨h1,hb⟩),fun _ h=>h,h2⟩
    rw[hc] at h1;cases h1
   obtain⟨v,gl',hv,hgl,h2⟩:=key;obtain⟨pre,suf,us,gm,e1,e2,e3,e6,e4,e5⟩:=FxN.adv r (i::os) (v::vs) gl' h2;exact He
def zZ:List Nat→List Value→(Nat→Value)→Nat→Value
 |i::os,v::vs,y=>cX (zZ os vs y) i v
 |_,_,y=>y
theorem yK:∀(os:List Nat) (vs:List Value) (y:Nat→Value) (m j:Nat),os.Nodup→os.length=vs.length→os[m]?=some j→zZ os vs y j=aG vs m
 |i::os,v::vs,y,0,j,_,_,h=>by
  simp at h;subst h;unfold zZ cX;rw[if_pos rfl];rfl
 |i::os,v::vs,y,m+1,j,hn,hl,h=>by
  have h':os[m]?=some j:=by simpa using h
  have hne:j≠i:=fun e=>by
   subst e;exact(List.nodup_cons.1 hn).1 (List.mem_of_getElem? h')
  unfold zZ cX;rw[if_neg hne];exact yK os vs y m j (List.nodup_cons.1 hn).2 (by simpa using hl) h'
theorem uZ{ops:Array Oper}(hd:oU ops=true)(a:Act)(y:Nat→Value):∀(os:List Nat) (vs:List Value),os.length=vs.length→(∀j ∈ os,j<ops.size)→bF (os.map (bE ops)) vs (aZ ops y ops.size a)=aZ ops (zZ os vs y) ops.size a
 |[],[],_,_=>rfl
 |i::os,v::vs,hl,hlt=>by
  show(bF (os.map (bE ops)) vs (aZ ops y ops.size a)).put (bE ops i) v=aZ ops (cX (zZ os vs y) i v) ops.size a;rw[uZ hd a y os vs (by simpa using hl) (fun j hj=>hlt j (List.mem_cons_of_mem _ hj)),oT ops _ i v (fun j hj x hx=>mJ hd i j hj x hx) ops.size a (hlt i (by simp))]
theorem rC{l:List Nat}(h:l.Nodup):l.reverse.Nodup:=List.pairwise_reverse.2 (List.Pairwise.imp (fun hne=>hne.symm) h)
def sZ:List Nat→Bool
 |[]=>true
 |i::r=> !r.contains i&&sZ r
theorem nJ:∀l:List Nat,sZ l=true→l.Nodup
 |[],_=>List.nodup_nil
 |i::r,h=>by
  unfold sZ at h;rw[Bool.and_eq_true,Bool.not_eq_true'] at h;refine List.nodup_cons.2 ⟨fun hm=>?_,nJ r h.2⟩;rw[List.contains_iff_mem.2 hm] at h;exact absurd h.1 (by simp)
def nxB(ops:Array Oper)(ord:List Nat)(N:Nat):Bool:=
 iP .any ops&&(oU ops&&(zQ ops N&&(((List.range ops.size).all fun i=>match (ops[i]?).bind (·.guard) with|some (j,_)=>cE ops i j&&(bE ops j).isSome|none=>true)&&(sZ ord&&(ord.all (fun i=>decide (i<ops.size))&&((List.range ops.size).all fun i=>ord.contains i))))))
theorem yL{w:World}{bk:Nat}{cs:Array Value}{T:TypeId}{fz:Nat × Nat}(hb:w.heap[bk]?=some (.cells cs T fz))(n size:Nat)(hs:cs.size=n*size)(hn:n≤maxLen):SlD w (fun _=>True) size (.slice (some ⟨bk,0,none⟩) n n) cs.toList:=
 ⟨_,n,n,rfl,by simpa using hs,Nat.le_refl _,hn,fun _=>⟨bk,0,rfl,trivial,fun j u hu=>by rw[Nat.zero_add,aA hb];simpa using hu⟩⟩
theorem BD{P:Program}{t e:TypeId}{size bytes:Nat}(E:cH P t e size bytes){w:World}{o:Oper}{ev:Operand→Value}(s x:Operand)
  (ho:o.op= .call {callee:=.builtin .append,args:=#[s,x],argTypes:=#[t,t]})
  (base:Nat) (A:Option Addr) (n c:Nat) (xs:List Value) (hs:ev s= .slice A n c) (hown:w.ownsRow base e size (.slice A n c) n xs)
  (B:Option Addr) (m d:Nat) (news:List Value) (hx:ev x= .slice B m d) (hr:SlD w (fun _=>True) size (.slice B m d) news) (h1:∀u ∈ news,u.oneCell'=true) (hb:(n+m)*bytes≤140737488355328) (h63:n+m≤maxLen) (hbase:base≤w.heap.size):
  ∃A' c' w',(execOp ev o).run P w= .ok (.value (.slice A' (n+m) c')) w'∧w'.ownsRow base e size (.slice A' (n+m) c') (n+m) (xs++news)∧Fr (Value.slice A n c).ownBlock w w'∧oJ w.heap.size (.slice A n c) (.slice A' (n+m) c'):=by
 obtain⟨A',c',w',hr,h2,h3,h4⟩:=nU (P:=P) (ty:=o.type) E w base A n c xs hown B m d news hr h1 hb h63 hbase;refine⟨A',c',w',?_,h2,h3,?_⟩
 ·unfold execOp;simp only[ho,resolve,invoke,builtin,Sem.run_bind,Sem.run_pure,Result.andThen_ok,List.map_toArray,List.map_cons,List.map_nil,hs,hx,hr]
 rcases h4 with h|h
 ·exact .inl h
 exact .inr ⟨_,h,Nat.le_refl _⟩
theorem yM{P:Program}{t e:TypeId}{size bytes:Nat}(E:cH P t e size bytes){w:World}{o:Oper}{ev:Operand→Value}{T:Value→World→Prop}(s x:Operand)
  (ho:o.op= .call {callee:=.builtin .append,args:=#[s,x],argTypes:=#[t,t]})
  (base:Nat) (A:Option Addr) (n c:Nat) (xs:List Value) (hs:ev s= .slice A n c) (hown:w.ownsRow base e size (.slice A n c) n xs)
  (B:Option Addr) (m d:Nat) (news:List Value) (hx:ev x= .slice B m d) (hr:SlD w (fun _=>True) size (.slice B m d) news) (h1:∀u ∈ news,u.oneCell'=true) (hb:(n+m)*bytes≤140737488355328) (h63:n+m≤maxLen) (hbase:base≤w.heap.size)
  (h:∀A' c' w',w'.ownsRow base e size (.slice A' (n+m) c') (n+m) (xs++news)→Fr (Value.slice A n c).ownBlock w w'→oJ w.heap.size (.slice A n c) (.slice A' (n+m) c')→T (.slice A' (n+m) c') w'):
  ∃v w',(execOp ev o).run P w= .ok (.value v) w'∧T v w':=by
 obtain⟨A',c',w',hr,h2,h3,h4⟩:=BD E s x ho base A n c xs hs hown B m d news hx hr h1 hb h63 hbase;exact⟨_,w',hr,h A' c' w' h2 h3 h4⟩
end Go.Proofs.YthaggndnfamhjaaGreatDoor
