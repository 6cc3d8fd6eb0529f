/- Texts, joined. -/
import Derived.Test.YthaggndnfamhjaaGreatDoorJK3
import Derived.Test.YthaggndnfamhjaaGreatDoorJK6
import Derived.Lib.AtoiAll
import Derived.Lib.IndexAny
import Derived.Lib.SplitLaws

set_option linter.unusedSimpArgs false
set_option linter.unusedVariables false
set_option maxRecDepth 100000
set_option maxHeartbeats 16000000
namespace Go.Proofs.YthaggndnfamhjaaGreatDoor
open Go.RowKit
structure Opr where
 kind:Int
 to_:Int
 amt:Int
 lim:Int
 ast:Ast
 oth:Ast
 num:Int
 den:Int
 id:Int
 path:List Ast
 deriving DecidableEq
structure Txn where
 src:Int
 seq:Int
 fee:Int
 ops:List Opr
 deriving DecidableEq
def op0:Opr:=⟨0,0,0,0,nat,nat,0,0,0,[]⟩
def dW(n:Int):Bool:=decide (0<n)&&aX n
def inR(n lo hi:Int):Bool:=decide (lo≤n)&&decide (n≤hi)
def gI(l:List Ast):Bool:=decide (l.length≤4)&&l.all aV
def plO(o:Opr):Opr × Bool:=
 if o.kind=1 then({op0 with kind:=1,amt:=o.amt,to_:=o.to_},inR o.to_ 1 1000&&dW o.amt)
 else if o.kind=2 then({op0 with kind:=2,amt:=o.amt,to_:=o.to_,ast:=o.ast},inR o.to_ 1 1000&&(dW o.amt&&aV o.ast))
 else if o.kind=3 then({op0 with kind:=3,amt:=o.amt,ast:=o.ast},aX o.amt&&(aV o.ast&&decide (o.ast≠nat)))
 else if o.kind=4 then({op0 with kind:=4,amt:=o.amt,ast:=o.ast,oth:=o.oth,num:=o.num,den:=o.den},dW o.amt&&(aV o.ast&&(aV o.oth&&(decide (o.ast≠o.oth)&&bX o.num o.den))))
 else if o.kind=5 then({op0 with kind:=5,id:=o.id},inR o.id 1 1000000)
 else if o.kind=6 then({op0 with kind:=6,amt:=o.amt,to_:=o.to_,lim:=o.lim,ast:=o.ast,oth:=o.oth,path:=o.path},inR o.to_ 1 1000&&(dW o.amt&&(dW o.lim&&(aV o.ast&&(aV o.oth&&gI o.path)))))
 else({op0 with kind:=o.kind,amt:=o.amt},false)
def vOp(o:Opr):Bool:=(plO o).2&&decide ((plO o).1=o)
def vTx(t:Txn):Bool:=inR t.src 1 1000&&(inR t.seq 1 1000000&&(inR t.fee 1 100000&&(inR (t.ops.length:Int) 1 4&&t.ops.all vOp)))
def nQ(a b:Txn):Bool:=decide (a.src<b.src∨a.src=b.src∧a.seq<b.seq)
def GH(b:Option Txn)(t:Txn):Bool:=match b with|some b=>nQ b t|none=>true
def cS(l:List Txn):Int:=if 12<l.length then 3 else if l.all vTx=false then 1 else if bV GH none l=true then 0 else 7
def fY(a:Ast):List UInt8:=if a=nat then[45] else a.code++Lib.itoa a.iss
def iL(o:Opr):List (List UInt8):=
 if o.kind=1 then[99::Lib.itoa o.to_,Lib.itoa o.amt]
 else if o.kind=2 then[112::Lib.itoa o.to_,Lib.itoa o.amt,fY o.ast]
 else if o.kind=3 then[116::fY o.ast,Lib.itoa o.amt]
 else if o.kind=4 then[111::Lib.itoa o.amt,fY o.ast,fY o.oth,Lib.itoa o.num,Lib.itoa o.den]
 else if o.kind=5 then[120::Lib.itoa o.id]
 else if o.kind=6 then(115::Lib.itoa o.to_)::Lib.itoa o.amt::fY o.ast::Lib.itoa o.lim::fY o.oth::o.path.map fY
 else[]
def fZ(o:Opr):List UInt8:=Lib.join (iL o) [44]
def sR(t:Txn):List (List UInt8):=Lib.itoa t.src::Lib.itoa t.seq::Lib.itoa t.fee::t.ops.map fZ
def iY(t:Txn):List UInt8:=Lib.join (sR t) [32]
def fK(l:List Txn):List UInt8:=if l=[] then[48] else Lib.join (l.map iY) [124]
def eO(c:UInt8)(s:List UInt8):List (List UInt8):=(Lib.splitB ⟨#[c]⟩ 0 (Lib.countB (bL s) ⟨#[c]⟩) (bL s)).map fun x=>x.data.toList
def rdN(w:List UInt8):Option Int:=match Lib.atoiAll w with
 | .ok n=>some n
 |_=>none
def oM:List UInt8:=[48,49,50,51,52,53,54,55,56,57]
def rdA(x:List UInt8):Option Ast:=if x=[45] then some nat else if Lib.indexAny x oM<0 then none else match rdN (x.drop (Lib.indexAny x oM).toNat) with
 |some n=>some ⟨x.take (Lib.indexAny x oM).toNat,n⟩
 |none=>none
def fdN(L:List (List UInt8)):Option Int:=match L with|[]=>none|x::_=>rdN x
def fdA(L:List (List UInt8)):Option Ast:=match L with|[]=>none|x::_=>rdA x
def uI:List (List UInt8)→Option (List Ast)
 |[]=>some []
 |x::r=>match rdA x,uI r with|some a,some l=>some (a::l)|_,_=>none
def rdO(w:List UInt8):Option Opr:=match w with
 |[]=>none
 |k::v=>
  let L:=eO 44 v
  if k=99 then(match fdN L,fdN (L.drop 1),decide (L.drop 2=[]) with|some a,some b,true=>some {op0 with kind:=1,to_:=a,amt:=b}|_,_,_=>none)
  else if k=112 then(match fdN L,fdN (L.drop 1),fdA (L.drop 2),decide (L.drop 3=[]) with|some a,some b,some c,true=>some {op0 with kind:=2,to_:=a,amt:=b,ast:=c}|_,_,_,_=>none)
  else if k=116 then(match fdA L,fdN (L.drop 1),decide (L.drop 2=[]) with|some a,some b,true=>some {op0 with kind:=3,ast:=a,amt:=b}|_,_,_=>none)
  else if k=111 then(match fdN L,fdA (L.drop 1),fdA (L.drop 2),fdN (L.drop 3),fdN (L.drop 4),decide (L.drop 5=[]) with|some a,some b,some c,some d,some e,true=>some {op0 with kind:=4,amt:=a,ast:=b,oth:=c,num:=d,den:=e}|_,_,_,_,_,_=>none)
  else if k=120 then(match fdN L,decide (L.drop 1=[]) with|some a,true=>some {op0 with kind:=5,id:=a}|_,_=>none)
  else if k=115 then(match fdN L,fdN (L.drop 1),fdA (L.drop 2),fdN (L.drop 3),fdA (L.drop 4),uI (L.drop 5) with|some a,some b,some c,some d,some e,some p=>some {op0 with kind:=6,to_:=a,amt:=b,ast:=c,lim:=d,oth:=e,path:=p}|_,_,_,_,_,_=>none)
  else none
def jK:List (List UInt8)→Option (List Opr)
 |[]=>some []
 |x::r=>match rdO x,jK r with|some a,some l=>some (a::l)|_,_=>none
def rdT(s:List UInt8):Option Txn:=
 let W:=eO 32 s
 if W.length<4 then none else match fdN W,fdN (W.drop 1),fdN (W.drop 2),jK (W.drop 3) with
 |some a,some b,some c,some l=>some ⟨a,b,c,l⟩
 |_,_,_,_=>none
def gJ:List (List UInt8)→Option (List Txn)
 |[]=>some []
 |x::r=>match rdT x,gJ r with|some a,some l=>some (a::l)|_,_=>none
def rdS(v:List UInt8):List Txn × Int:=if 200<v.length then([],3) else if v=[48] then([],0) else match gJ (eO 124 v) with
 |none=>([],2)
 |some l=>if cS l=0∧fK l=v then(l,0) else([],2)
def Noc(c:UInt8)(x:List UInt8):Prop:=∀b ∈ x,b≠c
theorem Noc.app{c:UInt8}{a b:List UInt8}(h:Noc c a)(k:Noc c b):Noc c (a++b):=fun d hd=>by
 rcases List.mem_append.1 hd with hd|hd
 ·exact h d hd
 exact k d hd
theorem Noc.cons{c d:UInt8}{a:List UInt8}(h:d≠c)(k:Noc c a):Noc c (d::a):=fun e he=>by
 rcases List.mem_cons.1 he with rfl|he
 ·exact h
 exact k e he
theorem yC:∀(a:List UInt8) (c:UInt8),(∀x ∈ a,x≠c)→Lib.indexByte a c= -1
 |[],c,_=>rfl
 |b::a,c,h=>by
  have hb:(b == c)=false:=by rw[beq_eq_false_iff_ne];exact h b (by simp)
  have ih:=yC a c (fun x hx=>h x (List.mem_cons_of_mem _ hx));simp[Lib.indexByte,hb,ih]
theorem uJ:∀(a r:List UInt8) (c:UInt8),(∀x ∈ a,x≠c)→Lib.indexByte (a++c::r) c=(a.length:Nat)
 |[],r,c,_=>by simp[Lib.indexByte]
 |b::a,r,c,h=>by
  have hb:(b == c)=false:=by rw[beq_eq_false_iff_ne];exact h b (by simp)
  have ih:=uJ a r c (fun x hx=>h x (List.mem_cons_of_mem _ hx));simp[Lib.indexByte,hb,ih]
theorem Bi(l:List UInt8)(a b:Nat):(bL l).extract a b=bL ((l.drop a).take (b - a)):=by
 apply ByteArray.ext;apply Array.ext';rw[fX];have:=Lib.extract_toList (bL l) a b;rw[ByteArray.toList_eq,fX] at this;exact this
theorem nE(c:UInt8)(x y:List UInt8)(r:List (List UInt8)):Lib.join (x::y::r) [c]=x++c::Lib.join (y::r) [c]:=by
 rw[Lib.join_cons,Lib.join_cons];simp[Lib.joinTail]
theorem qM(c:UInt8):∀ls:List (List UInt8),ls≠[]→(∀x ∈ ls,Noc c x)→Lib.countB (bL (Lib.join ls [c])) ⟨#[c]⟩+1=ls.length∧Lib.splitB ⟨#[c]⟩ 0 (ls.length - 1) (bL (Lib.join ls [c]))=ls.map bL
 |[],h,_=>absurd rfl h
 |[x],_,h=>by
  have h0:Lib.indexB (bL x) ⟨#[c]⟩= -1:=by
   show Lib.index (bL x).data.toList [c]= -1;rw[fX,Lib.index_one];exact yC x c (h x (by simp))
  refine⟨?_,?_⟩
  ·rw[Lib.join_one,Lib.countB_miss _ _ h0];rfl
  rw[Lib.join_one];rfl
 |x::y::r,_,h=>by
  obtain⟨ih1,ih2⟩:=qM c (y::r) (by simp) (fun z hz=>h z (by simp[hz]));rw[nE];generalize Lib.join (y::r) [c]=J at*
  have h0:Lib.indexB (bL (x++c::J)) ⟨#[c]⟩=(x.length:Nat):=by
   show Lib.index (bL (x++c::J)).data.toList [c]=_;rw[fX,Lib.index_one];exact uJ x J c (h x (by simp))
  have hsz:(⟨#[c]⟩:ByteArray).size=1:=rfl;have hex:(bL (x++c::J)).extract (x.length+(⟨#[c]⟩:ByteArray).size) (bL (x++c::J)).size=bL J:=by
   rw[Bi,dB,hsz];congr 1;rw[show x++c::J=(x++[c])++J by simp];rw[show x.length+1=(x++[c]).length by simp,List.drop_left,List.length_append,List.take_of_length_le (by omega)]
  refine⟨?_,?_⟩
  ·rw[Lib.countB_hit _ _ x.length (by rw[hsz];decide) h0,hex];simp only[List.length_cons] at ih1 ⊢;omega
  rw[show(x::y::r).length - 1=(y::r).length - 1+1 by simp,Lib.splitB_hit _ 0 _ _ _ h0,hex,ih2,Bi];simp
theorem eQ(c:UInt8)(ls:List (List UInt8))(h0:ls≠[])(h:∀x ∈ ls,Noc c x):eO c (Lib.join ls [c])=ls:=by
 obtain⟨h1,h2⟩:=qM c ls h0 h;unfold eO;rw[show Lib.countB (bL (Lib.join ls [c])) ⟨#[c]⟩=ls.length - 1 by omega,h2,List.map_map];refine(List.map_congr_left (fun x _=>?_)).trans (List.map_id _);exact fX x
theorem Noc.join{c:UInt8}{sep:List UInt8}(hs:Noc c sep):∀l:List (List UInt8),(∀x ∈ l,Noc c x)→Noc c (Lib.join l sep)
 |[],_=>by intro d hd;rw[Lib.join_nil] at hd;simp at hd
 |x::r,h=>by
  intro d hd;rw[Lib.join_cons] at hd;rcases List.mem_append.1 hd with hd|hd
  ·exact h x (by simp) d hd
  unfold Lib.joinTail at hd;obtain⟨y,hy,hd⟩:=List.mem_flatten.1 hd;obtain⟨z,hz,rfl⟩:=List.mem_map.1 hy;rcases List.mem_append.1 hd with hd|hd
  ·exact hs d hd
  exact h z (by simp[hz]) d hd
theorem uK{k:Int}(h0:0≤k){c:UInt8}(hc:oK c=false):Noc c (Lib.itoa k):=fun d hd e=>by
 obtain⟨n,rfl⟩:=Int.eq_ofNat_of_zero_le h0;rw[Lib.itoa_nonneg] at hd;have:=sQ n d hd;subst e;rw[this] at hc;cases hc
theorem qN:∀(l:List UInt8) (n:Nat),n≤sP n l
 |[],n=>Nat.le_refl n
 |c::r,n=>Nat.le_trans (by omega) (qN r (10*n+(c.toNat - 48)))
theorem Bj:∀(l:List UInt8) (n:Nat),(∀c ∈ l,oK c=true)→sP n l<9223372036854775808→Lib.parseUint10 n l= .ok (sP n l)
 |[],n,_,_=>rfl
 |c::r,n,h,hn=>by
  have hc:=h c (by simp);unfold oK at hc;rw[decide_eq_true_iff] at hc;have e:n*10+(c.toNat - 48)=10*n+(c.toNat - 48):=by omega
  have hm:=qN r (10*n+(c.toNat - 48));have hn':sP (10*n+(c.toNat - 48)) r<9223372036854775808:=hn;unfold Lib.parseUint10;rw[if_pos hc,if_neg (by omega),if_neg (by omega),e,Bj r _ (fun d hd=>h d (by simp[hd])) hn'];rfl
theorem cM{k:Int}(h0:0≤k)(h1:k≤9223372036854775807):rdN (Lib.itoa k)=some k:=by
 obtain⟨n,rfl⟩:=Int.eq_ofNat_of_zero_le h0;rw[Lib.itoa_nonneg];have hp:=Bj (Lib.decDigits n) 0 (sQ n) (by rw[uH];omega);rw[uH] at hp;have hd:=sQ n;have hne:=Bh n;unfold rdN Lib.atoiAll;generalize Lib.decDigits n=D at*
 cases D with
 |nil=>exact absurd rfl hne
 |cons c r=>
  have hc:=hd c (by simp);unfold oK at hc;rw[decide_eq_true_iff] at hc;simp only;rw[if_neg (by omega),Lib.parseMag,if_neg (by simp),hp];simp only;rw[if_neg (by omega),if_neg (by omega),if_neg (by omega)]
theorem yD{c:UInt8}:oM.contains c=oK c:=by
 rw[Bool.eq_iff_iff,List.contains_iff_mem];unfold oK oM;rw[decide_eq_true_iff];constructor
 ·intro h;simp only[List.mem_cons,List.not_mem_nil,or_false] at h;rcases h with rfl|rfl|rfl|rfl|rfl|rfl|rfl|rfl|rfl|rfl<;>decide
 intro h;obtain⟨h1,h2⟩:=h;have:c=UInt8.ofNat c.toNat:=by simp
 rw[this];generalize c.toNat=n at*
 simp only[List.mem_cons,List.not_mem_nil,or_false];have:n=48∨n=49∨n=50∨n=51∨n=52∨n=53∨n=54∨n=55∨n=56∨n=57:=by omega
 rcases this with rfl|rfl|rfl|rfl|rfl|rfl|rfl|rfl|rfl|rfl<;>decide
theorem gK{a:Ast}(h:aV a=true):a=nat∨(a≠nat∧1≤a.code.length∧1≤a.iss∧a.iss≤1000∧∀c ∈ a.code,65≤c.toNat∧c.toNat≤90):=by
 by_cases hn:a=nat
 ·exact .inl hn
 unfold aV at h;rw[decide_eq_false hn,Bool.false_or,Bool.and_eq_true,decide_eq_true_iff,List.all_eq_true] at h;refine .inr ⟨hn,h.1.1,h.1.2.2.1,h.1.2.2.2,fun c hc=>?_⟩;have:=h.2 c hc
 rwa [decide_eq_true_iff] at this
theorem iZ{a:Ast}(h:aV a=true):rdA (fY a)=some a:=by
 rcases gK h with rfl|⟨hn,h1,h2,h3,h4⟩
 ·rfl
 obtain⟨code,iss⟩:=a;simp only at h1 h2 h3 h4;have hidx:Lib.indexAny (code++Lib.itoa iss) oM=(code.length:Nat):=by
  obtain⟨n,hn'⟩:=Int.eq_ofNat_of_zero_le (show 0≤iss by omega);subst hn';rw[Lib.itoa_nonneg];have hd:=sQ n;have hne:=Bh n;cases hD:Lib.decDigits n with
  |nil=>exact absurd hD hne
  |cons d r=>
   rw[hD] at hd;refine Lib.indexAny_hit (x:=d) ?_ ?_ (by rw[yD];exact hd d (by simp))
   ·intro j y hj hy;rw[List.getElem?_append_left hj] at hy;have:=h4 y (List.mem_of_getElem? hy);rw[yD];unfold oK;rw[decide_eq_false_iff_not];omega
   rw[List.getElem?_append_right (Nat.le_refl _)];simp
 have hne:¬(code++Lib.itoa iss=[45]):=by
  intro e;cases code with
  |nil=>simp at h1
  |cons c r=>
   have:=h4 c (by simp);simp only[List.cons_append,List.cons.injEq] at e;rw[e.1] at this;exact absurd this.1 (by decide)
 unfold fY rdA;rw[if_neg hn];simp only;rw[if_neg hne,hidx,if_neg (by omega)];simp only[Int.toNat_natCast,List.drop_left,List.take_left];rw[cM (by omega) (by omega)]
theorem gL{a:Ast}(h:aV a=true){c:UInt8}(hc:c=44∨c=32∨c=124):Noc c (fY a):=by
 rcases gK h with rfl|⟨hn,h1,h2,h3,h4⟩
 ·rcases hc with rfl|rfl|rfl<;>(intro d hd;revert hd;unfold fY;rw[if_pos rfl];intro hd;obtain rfl:=List.mem_singleton.1 hd;decide)
 unfold fY;rw[if_neg hn];refine Noc.app (fun d hd e=>?_) (uK (by omega) (by rcases hc with rfl|rfl|rfl<;>decide));have:=h4 d hd;rw[e] at this;rcases hc with rfl|rfl|rfl<;>exact absurd this (by decide)
theorem uL:∀(l:List Ast),(∀a ∈ l,aV a=true)→uI (l.map fY)=some l
 |[],_=>rfl
 |a::r,h=>by
  rw[List.map_cons,uI,iZ (h a (by simp)),uL r (fun b hb=>h b (by simp[hb]))]
theorem fC{n:Int}:aX n=true↔0≤n∧n≤1000000000000:=by unfold aX;rw[decide_eq_true_iff]
theorem lK{n:Int}:dW n=true↔0<n∧n≤1000000000000:=by unfold dW;rw[Bool.and_eq_true,decide_eq_true_iff,fC];omega
theorem eF{n a b:Int}:inR n a b=true↔a≤n∧n≤b:=by unfold inR;rw[Bool.and_eq_true,decide_eq_true_iff,decide_eq_true_iff]
theorem lL{n d:Int}:bX n d=true↔1≤n∧n≤1000000∧1≤d∧d≤1000000:=by unfold bX;rw[decide_eq_true_iff]
theorem kJ(c:UInt8)(k:UInt8)(a:List UInt8)(r:List (List UInt8)):Lib.join ((k::a)::r) [c]=k::Lib.join (a::r) [c]:=by
 rw[Lib.join_cons,Lib.join_cons];rfl
theorem cP{k:Int}(h:0≤k){c:UInt8}(hc:c=44∨c=32∨c=124):Noc c (Lib.itoa k):=uK h (by rcases hc with rfl|rfl|rfl<;>decide)
def VO(o:Opr):Prop:=
 (o.kind=1∧(1≤o.to_∧o.to_≤1000)∧(0<o.amt∧o.amt≤1000000000000)∧{op0 with kind:=1,amt:=o.amt,to_:=o.to_}=o)∨
 (o.kind=2∧(1≤o.to_∧o.to_≤1000)∧(0<o.amt∧o.amt≤1000000000000)∧aV o.ast=true∧{op0 with kind:=2,amt:=o.amt,to_:=o.to_,ast:=o.ast}=o)∨
 (o.kind=3∧(0≤o.amt∧o.amt≤1000000000000)∧aV o.ast=true∧{op0 with kind:=3,amt:=o.amt,ast:=o.ast}=o)∨
 (o.kind=4∧(0<o.amt∧o.amt≤1000000000000)∧aV o.ast=true∧aV o.oth=true∧(1≤o.num∧o.num≤1000000∧1≤o.den∧o.den≤1000000)∧{op0 with kind:=4,amt:=o.amt,ast:=o.ast,oth:=o.oth,num:=o.num,den:=o.den}=o)∨
 (o.kind=5∧(1≤o.id∧o.id≤1000000)∧{op0 with kind:=5,id:=o.id}=o)∨
 (o.kind=6∧(1≤o.to_∧o.to_≤1000)∧(0<o.amt∧o.amt≤1000000000000)∧(0<o.lim∧o.lim≤1000000000000)∧aV o.ast=true∧aV o.oth=true∧(o.path.length≤4∧∀a ∈ o.path,aV a=true))
theorem qO{l:List Ast}:gI l=true↔l.length≤4∧∀a ∈ l,aV a=true:=by
 unfold gI;rw[Bool.and_eq_true,decide_eq_true_iff,List.all_eq_true]
theorem qP{o:Opr}(h:vOp o=true):VO o:=by
 unfold vOp at h;rw[Bool.and_eq_true,decide_eq_true_iff] at h;obtain⟨h1,h2⟩:=h;unfold plO at h1 h2;unfold VO;by_cases k1:o.kind=1
 ·rw[if_pos k1] at h1 h2;simp only[Bool.and_eq_true,eF,lK] at h1;exact .inl ⟨k1,h1.1,h1.2,h2⟩
 rw[if_neg k1] at h1 h2;by_cases k2:o.kind=2
 ·rw[if_pos k2] at h1 h2;simp only[Bool.and_eq_true,eF,lK] at h1;exact .inr (.inl ⟨k2,h1.1,h1.2.1,h1.2.2,h2⟩)
 rw[if_neg k2] at h1 h2;by_cases k3:o.kind=3
 ·rw[if_pos k3] at h1 h2;simp only[Bool.and_eq_true,fC] at h1;exact .inr (.inr (.inl ⟨k3,h1.1,h1.2.1,h2⟩))
 rw[if_neg k3] at h1 h2;by_cases k4:o.kind=4
 ·rw[if_pos k4] at h1 h2;simp only[Bool.and_eq_true,lK,lL] at h1;exact .inr (.inr (.inr (.inl ⟨k4,h1.1,h1.2.1,h1.2.2.1,h1.2.2.2.2,h2⟩)))
 rw[if_neg k4] at h1 h2;by_cases k5:o.kind=5
 ·rw[if_pos k5] at h1 h2;simp only[eF] at h1;exact .inr (.inr (.inr (.inr (.inl ⟨k5,h1,h2⟩))))
 rw[if_neg k5] at h1 h2;by_cases k6:o.kind=6
 ·rw[if_pos k6] at h1 h2;simp only[Bool.and_eq_true,eF,lK,qO] at h1;exact .inr (.inr (.inr (.inr (.inr ⟨k6,h1.1,h1.2.1,h1.2.2.1,h1.2.2.2.1,h1.2.2.2.2.1,h1.2.2.2.2.2⟩))))
 rw[if_neg k6] at h1;simp at h1
theorem vo6{o:Opr}(h:vOp o=true)(k:o.kind=6):{op0 with kind:=6,amt:=o.amt,to_:=o.to_,lim:=o.lim,ast:=o.ast,oth:=o.oth,path:=o.path}=o:=by
 unfold vOp at h;rw[Bool.and_eq_true,decide_eq_true_iff] at h;have h2:=h.2;unfold plO at h2;rw[if_neg (by omega),if_neg (by omega),if_neg (by omega),if_neg (by omega),if_neg (by omega),if_pos k] at h2;exact h2
theorem qQ{c k:UInt8}(hc:c=44∨c=32∨c=124)(hk:k=99∨k=112∨k=116∨k=111∨k=120∨k=115):k≠c:=by
 rcases hc with rfl|rfl|rfl<;>rcases hk with rfl|rfl|rfl|rfl|rfl|rfl<;>decide
theorem uM{o:Opr}(h:vOp o=true){c:UInt8}(hc:c=44∨c=32∨c=124):∀x ∈ iL o,Noc c x:=by
 rcases qP h with⟨k,h1,h2,_⟩|⟨k,h1,h2,h3,_⟩|⟨k,h1,h2,_⟩|⟨k,h1,h2,h3,h4,_⟩|⟨k,h1,_⟩|⟨k,h1,h2,h3,h4,h5,h6⟩
 ·unfold iL;rw[if_pos k];intro x hx;simp only[List.mem_cons,List.not_mem_nil,or_false] at hx;rcases hx with rfl|rfl
  ·exact(cP (by omega) hc).cons (qQ hc (by simp))
  exact cP (by omega) hc
 ·unfold iL;rw[if_neg (by omega),if_pos k];intro x hx;simp only[List.mem_cons,List.not_mem_nil,or_false] at hx;rcases hx with rfl|rfl|rfl
  ·exact(cP (by omega) hc).cons (qQ hc (by simp))
  ·exact cP (by omega) hc
  exact gL h3 hc
 ·unfold iL;rw[if_neg (by omega),if_neg (by omega),if_pos k];intro x hx;simp only[List.mem_cons,List.not_mem_nil,or_false] at hx;rcases hx with rfl|rfl
  ·exact(gL h2 hc).cons (qQ hc (by simp))
  exact cP (by omega) hc
 ·unfold iL;rw[if_neg (by omega),if_neg (by omega),if_neg (by omega),if_pos k];intro x hx;simp only[List.mem_cons,List.not_mem_nil,or_false] at hx;rcases hx with rfl|rfl|rfl|rfl|rfl
  ·exact(cP (by omega) hc).cons (qQ hc (by simp))
  ·exact gL h2 hc
  ·exact gL h3 hc
  ·exact cP (by omega) hc
  exact cP (by omega) hc
 ·unfold iL;rw[if_neg (by omega),if_neg (by omega),if_neg (by omega),if_neg (by omega),if_pos k];intro x hx;simp only[List.mem_cons,List.not_mem_nil,or_false] at hx;rw[hx];exact(cP (by omega) hc).cons (qQ hc (by simp))
 unfold iL;rw[if_neg (by omega),if_neg (by omega),if_neg (by omega),if_neg (by omega),if_neg (by omega),if_pos k];intro x hx;simp only[List.mem_cons,List.mem_map] at hx;rcases hx with rfl|rfl|rfl|rfl|rfl|⟨a,ha,rfl⟩
 ·exact(cP (by omega) hc).cons (qQ hc (by simp))
 ·exact cP (by omega) hc
 ·exact gL h4 hc
 ·exact cP (by omega) hc
 ·exact gL h5 hc
 exact gL (h6.2 a ha) hc
theorem Bk{o:Opr}(h:vOp o=true){c:UInt8}(hc:c=32∨c=124):Noc c (fZ o):=
 Noc.join (fun b hb=>by obtain rfl:=List.mem_singleton.1 hb;rcases hc with rfl|rfl<;>decide) _ (uM h (by rcases hc with rfl|rfl<;>simp))
theorem FT{c k:UInt8}{x:List UInt8}(h:Noc c (k::x)):Noc c x:=fun b hb=>h b (by simp[hb])
theorem mH{c k:UInt8}{a:List UInt8}{r:List (List UInt8)}(h:∀x ∈ (k::a)::r,Noc c x):∀x ∈ a::r,Noc c x:=fun x hx=>by
 rcases List.mem_cons.1 hx with rfl|hx
 ·exact FT (h (k::x) (by simp))
 exact h x (List.mem_cons_of_mem _ hx)
theorem DD{o:Opr}(h:vOp o=true):rdO (fZ o)=some o:=by
 have hn:=uM h (c:=44) (by simp);rcases qP h with⟨k,h1,h2,he⟩|⟨k,h1,h2,h3,he⟩|⟨k,h1,h2,he⟩|⟨k,h1,h2,h3,h4,he⟩|⟨k,h1,he⟩|⟨k,h1,h2,h3,h4,h5,h6⟩
 ·unfold fZ;unfold iL at hn ⊢;rw[if_pos k] at hn ⊢;rw[kJ];unfold rdO;simp only;rw[if_pos trivial,eQ 44 _ (by simp) (mH hn)];simp only[fdN,List.drop,cM (show 0≤o.to_ by omega) (by omega),cM (show 0≤o.amt by omega) (by omega),decide_true];rw[he]
 ·unfold fZ;unfold iL at hn ⊢;rw[if_neg (by omega),if_pos k] at hn ⊢;rw[kJ];unfold rdO;simp only;rw[if_neg (by decide),if_pos trivial,eQ 44 _ (by simp) (mH hn)];simp only[fdN,fdA,List.drop,cM (show 0≤o.to_ by omega) (by omega),cM (show 0≤o.amt by omega) (by omega),iZ h3,decide_true];rw[he]
 ·unfold fZ;unfold iL at hn ⊢;rw[if_neg (by omega),if_neg (by omega),if_pos k] at hn ⊢;rw[kJ];unfold rdO;simp only;rw[if_neg (by decide),if_neg (by decide),if_pos trivial,eQ 44 _ (by simp) (mH hn)];simp only[fdN,fdA,List.drop,cM (show 0≤o.amt by omega) (by omega),iZ h2,decide_true];rw[he]
 ·unfold fZ;unfold iL at hn ⊢;rw[if_neg (by omega),if_neg (by omega),if_neg (by omega),if_pos k] at hn ⊢;rw[kJ];unfold rdO;simp only;rw[if_neg (by decide),if_neg (by decide),if_neg (by decide),if_pos trivial,eQ 44 _ (by simp) (mH hn)];simp only[fdN,fdA,List.drop,cM (show 0≤o.amt by omega) (by omega),cM (show 0≤o.num by omega) (by omega),cM (show 0≤o.den by omega) (by omega),iZ h2,iZ h3,decide_true];rw[he]
 ·unfold fZ;unfold iL at hn ⊢;rw[if_neg (by omega),if_neg (by omega),if_neg (by omega),if_neg (by omega),if_pos k] at hn ⊢;rw[kJ];unfold rdO;simp only;rw[if_neg (by decide),if_neg (by decide),if_neg (by decide),if_neg (by decide),if_pos trivial,eQ 44 _ (by simp) (mH hn)];simp only[fdN,List.drop,cM (show 0≤o.id by omega) (by omega),decide_true];rw[he]
 have he:=vo6 h k;unfold fZ;unfold iL at hn ⊢;rw[if_neg (by omega),if_neg (by omega),if_neg (by omega),if_neg (by omega),if_neg (by omega),if_pos k] at hn ⊢;rw[kJ];unfold rdO;simp only;rw[if_neg (by decide),if_neg (by decide),if_neg (by decide),if_neg (by decide),if_neg (by decide),if_pos trivial,eQ 44 _ (by simp) (mH hn)];simp only[fdN,fdA,List.drop,cM (show 0≤o.to_ by omega) (by omega),cM (show 0≤o.amt by omega) (by omega),cM (show 0≤o.lim by omega) (by omega),iZ h4,iZ h5,uL o.path h6.2];rw[he]
theorem uN:∀(l:List Opr),(∀o ∈ l,vOp o=true)→jK (l.map fZ)=some l
 |[],_=>rfl
 |a::r,h=>by
  rw[List.map_cons,jK,DD (h a (by simp)),uN r (fun b hb=>h b (by simp[hb]))]
def VT(t:Txn):Prop:=(1≤t.src∧t.src≤1000)∧(1≤t.seq∧t.seq≤1000000)∧(1≤t.fee∧t.fee≤100000)∧(1≤t.ops.length∧t.ops.length≤4)∧∀o ∈ t.ops,vOp o=true
theorem FE{t:Txn}(h:vTx t=true):VT t:=by
 unfold vTx at h;simp only[Bool.and_eq_true,eF,List.all_eq_true] at h;exact⟨h.1,h.2.1,h.2.2.1,by omega,h.2.2.2.2⟩
theorem uO{t:Txn}(h:VT t){c:UInt8}(hc:c=32∨c=124):∀x ∈ sR t,Noc c x:=by
 intro x hx;have hc':c=44∨c=32∨c=124:=.inr hc;unfold sR at hx;simp only[List.mem_cons,List.mem_map] at hx;rcases hx with rfl|rfl|rfl|⟨o,ho,rfl⟩
 ·exact cP (by have:=h.1;omega) hc'
 ·exact cP (by have:=h.2.1;omega) hc'
 ·exact cP (by have:=h.2.2.1;omega) hc'
 exact Bk (h.2.2.2.2 o ho) hc
theorem DE{t:Txn}(hv:vTx t=true):rdT (iY t)=some t:=by
 have h:=FE hv;have hn:=uO h (c:=32) (by simp);have h1:=h.1;have h2:=h.2.1;have h3:=h.2.2.1;have h4:=h.2.2.2.1;unfold rdT iY;simp only;rw[eQ 32 _ (by simp[sR]) hn,if_neg (by simp[sR];omega)];unfold sR;simp only[fdN,List.drop,cM (show 0≤t.src by omega) (by omega),cM (show 0≤t.seq by omega) (by omega),cM (show 0≤t.fee by omega) (by omega),uN t.ops h.2.2.2.2]
theorem uP:∀(l:List Txn),(∀o ∈ l,vTx o=true)→gJ (l.map iY)=some l
 |[],_=>rfl
 |a::r,h=>by
  rw[List.map_cons,gJ,DE (h a (by simp)),uP r (fun b hb=>h b (by simp[hb]))]
theorem DG{l:List Txn}(h:cS l=0):∀t ∈ l,vTx t=true:=by
 unfold cS at h;split at h
 ·cases h
 split at h
 ·cases h
 rename_i h1 h2;rw[Bool.not_eq_false] at h2;exact List.all_eq_true.1 h2
theorem Bm{t:Txn}:(32:UInt8) ∈ iY t:=by
 unfold iY sR;rw[nE];simp
theorem DH{l:List Txn}(h:cS l=0)(hz:(fK l).length≤200):rdS (fK l)=(l,0):=by
 unfold rdS;rw[if_neg (by omega)];by_cases hl:l=[]
 ·subst hl;rfl
 have ha:=DG h;have hs:fK l=Lib.join (l.map iY) [124]:=by unfold fK;rw[if_neg hl]
 have hne:¬fK l=[48]:=by
  intro e;have:(32:UInt8) ∈ fK l:=by
   rw[hs];cases l with
   |nil=>exact absurd rfl hl
   |cons t r=>rw[List.map_cons,Lib.join_cons];exact List.mem_append_left _ Bm
  rw[e] at this;simp at this
 have hsp:eO 124 (fK l)=l.map iY:=by
  rw[hs];refine eQ 124 _ (by simpa using hl) fun x hx=>?_;obtain⟨t,ht,rfl⟩:=List.mem_map.1 hx;exact Noc.join (fun b hb=>by obtain rfl:=List.mem_singleton.1 hb;decide) _ (uO (FE (ha t ht)) (by simp))
 rw[if_neg hne,hsp,uP l ha];simp only;rw[if_pos ⟨h,trivial⟩]
end Go.Proofs.YthaggndnfamhjaaGreatDoor
