/- Texts, joined. -/
import Derived.Test.YthaggndnfamhjaaGreatDoorProg
import Derived.Test.YthaggndnfamhjaaGreatDoorJK7
import Derived.Test.YthaggndnfamhjaaGreatDoorJK3
import Derived.Test.YthaggndnfamhjaaGreatDoorJK4
import Derived.Test.YthaggndnfamhjaaGreatDoorJK18
import Derived.Test.YthaggndnfamhjaaGreatDoorJK5
import Derived.Test.YthaggndnfamhjaaGreatDoorJK16
import Derived.Laws.Cover1
import Derived.Test.YthaggndnfamhjaaGreatDoorJA

set_option linter.unusedSimpArgs false
set_option linter.unusedVariables false
set_option maxRecDepth 100000
set_option maxHeartbeats 16000000
namespace Go.Proofs.YthaggndnfamhjaaGreatDoor
open Go.RowKit
theorem cZ{a b:Bool}(h:a=b):(Ending.returned (.bool a))=Ending.returned (.bool b):=by rw[h]
theorem cT(n lo hi:Int)(w:World):Calls Tryz.prog 60 #[.int .i64 n,.int .i64 lo,.int .i64 hi] w fun e w'=>e= .returned (.bool (inR n lo hi))∧w'=w:=by
 by_cases h1:lo≤n
 ·by_cases h2:n≤hi
  ·have HX:Hid (inR n lo hi=true):=eF.2 ⟨h1,h2⟩;go_enter Tryz.func60,Tryz.ntmps60;go_wp2;go_ret;exact⟨cZ HX.out.symm,rfl⟩
  have HX:Hid (inR n lo hi=false):=by unfold Hid inR;rw[decide_eq_false h2];simp
  go_enter Tryz.func60,Tryz.ntmps60;go_wp2;go_ret;exact⟨cZ HX.out.symm,rfl⟩
 have HX:Hid (inR n lo hi=false):=by unfold Hid inR;rw[decide_eq_false h1];rfl
 go_enter Tryz.func60,Tryz.ntmps60;go_wp2;go_ret;exact⟨cZ HX.out.symm,rfl⟩
theorem cJ(n:Int)(w:World):Calls Tryz.prog 58 #[.int .i64 n] w fun e w'=>e= .returned (.bool (aX n))∧w'=w:=by
 by_cases h1:0≤n
 ·by_cases h2:n≤1000000000000
  ·have HX:Hid (aX n=true):=fC.2 ⟨h1,h2⟩;go_enter Tryz.func58,Tryz.ntmps58;go_wp2;go_ret;exact⟨cZ HX.out.symm,rfl⟩
  have HX:Hid (aX n=false):=by unfold Hid aX;rw[decide_eq_false (fun e=>h2 e.2)]
  go_enter Tryz.func58,Tryz.ntmps58;go_wp2;go_ret;exact⟨cZ HX.out.symm,rfl⟩
 have HX:Hid (aX n=false):=by unfold Hid aX;rw[decide_eq_false (fun e=>h1 e.1)]
 go_enter Tryz.func58,Tryz.ntmps58;go_wp2;go_ret;exact⟨cZ HX.out.symm,rfl⟩
theorem jV(n:Int)(w:World):Calls Tryz.prog 103 #[.int .i64 n] w fun e w'=>e= .returned (.bool (dW n))∧w'=w:=by
 by_cases h1:0<n
 ·have HX:Hid (dW n=aX n):=by unfold Hid dW;rw[decide_eq_true h1];rfl
  go_enter Tryz.func103,Tryz.ntmps103;go_wp2_with fail;refine(cJ n w).mono ?_;rintro e w' ⟨rfl,rfl⟩;go_wp2;go_ret;exact⟨cZ HX.out.symm,rfl⟩
 have HX:Hid (dW n=false):=by unfold Hid dW;rw[decide_eq_false h1];rfl
 go_enter Tryz.func103,Tryz.ntmps103;go_wp2;go_ret;exact⟨cZ HX.out.symm,rfl⟩
def prt(n:Int):Bool:=decide (1≤n∧n≤1000000)
theorem vA(n:Int)(w:World):Calls Tryz.prog 138 #[.int .i64 n] w fun e w'=>e= .returned (.bool (prt n))∧w'=w:=by
 by_cases h1:1≤n
 ·by_cases h2:n≤1000000
  ·have HX:Hid (prt n=true):=by unfold Hid prt;rw[decide_eq_true ⟨h1,h2⟩]
   go_enter Tryz.func138,Tryz.ntmps138;go_wp2;go_ret;exact⟨cZ HX.out.symm,rfl⟩
  have HX:Hid (prt n=false):=by unfold Hid prt;rw[decide_eq_false (fun e=>h2 e.2)]
  go_enter Tryz.func138,Tryz.ntmps138;go_wp2;go_ret;exact⟨cZ HX.out.symm,rfl⟩
 have HX:Hid (prt n=false):=by unfold Hid prt;rw[decide_eq_false (fun e=>h1 e.1)]
 go_enter Tryz.func138,Tryz.ntmps138;go_wp2;go_ret;exact⟨cZ HX.out.symm,rfl⟩
theorem gN(n d:Int)(w:World):Calls Tryz.prog 104 #[.int .i64 n,.int .i64 d] w fun e w'=>e= .returned (.bool (bX n d))∧w'=w:=by
 have hX:bX n d=(prt n&&prt d):=by
  unfold bX prt;rw[Bool.eq_iff_iff,Bool.and_eq_true,decide_eq_true_iff,decide_eq_true_iff,decide_eq_true_iff];omega
 have HX:=sH hX;clear hX;go_enter Tryz.func104,Tryz.ntmps104;go_wp2_with fail;refine(vA n w).mono ?_;rintro e w' ⟨rfl,rfl⟩;generalize prt n=a at*
 cases a
 ·go_wp2;go_ret;exact⟨cZ HX.out.symm,rfl⟩
 go_wp2_with fail;refine(vA d w').mono ?_;rintro e w'' ⟨rfl,rfl⟩;go_wp2;go_ret;exact⟨cZ HX.out.symm,rfl⟩
def vQ(an ad bn bd:Int):Int:=if bX an ad=true∧bX bn bd=true then fT (an*bd) (bn*ad) else 0
def cmB(a b:List UInt8):Int:=if ltL a b=true then -1 else if a=b then 0 else 1
theorem Ca(a b:List UInt8):Wi (cmB a b):=by
 unfold cmB;split
 ·constructor<;>decide
 split<;>constructor<;>decide
def kB(a b:Ast):Int:=orL [cmB a.code b.code,fT a.iss b.iss]
def eW(f:aQ→aQ × Int)(l:List aQ)(id:Int):List aQ × Int:=
 if cC l≠0 then([],74) else match l.findIdx? (isA id) with
 |none=>([],67)
 |some k=>match l[k]? with
  |none=>([],67)
  |some x=>if(f x).2≠0 then([],(f x).2) else(l.set k (f x).1,0)
def tL(l:List aQ)(id:Int):Int:=dG (isA id) l
def eD(n:Int)(x:aQ):aQ × Int:=if aX n=false then(x,65) else if x.bal<n then(x,66) else({x with bal:=x.bal - n},0)
def fU(seq fee:Int)(x:aQ):aQ × Int:=if seq≠x.seq+1∨1000000<seq then(x,68) else if fee<1∨100000<fee then(x,69) else if x.bal<fee then(x,66) else({x with seq:=seq,bal:=x.bal - fee},0)
def jE(l:List aQ)(id:Int):Nat:=l.countP fun x=>decide (x.id<id)
def qD(l:List aQ)(id bal:Int):List aQ × Int:=
 if cC l≠0 then([],74) else if inR id 1 1000=false∨0≤tL l id then([],67) else if aX bal=false then([],65) else if l.length=20 then([],3) else
  (l.take (jE l id)++⟨id,bal,0⟩::l.drop (jE l id),0)
def btr(a b:Ofr):Int:=orL [vQ a.num a.den b.num b.den,fT a.id b.id]
def lF(sg by_:Ast)(o:Ofr):Bool:=decide (o.sg=sg)&&decide (o.by_=by_)
def lC(g:Lgr)(sg by_:Ast):List Ofr:=(g.offers.filter (lF sg by_)).mergeSort fun a b=> !decide (btr b a<0)
def mS(g:Lgr)(taker:Int)(get give:Ast)(n most:Int):dD:=jD taker (lC g get give) ⟨g,n,most⟩
def mT(g:Lgr)(get give:Ast)(n most:Int):Int:=if aH g≠0 then aH g else if aV get=false∨aV give=false∨get=give then 71 else if aX n=false∨aX most=false then 65 else 0
def crs(g:Lgr)(taker:Int)(get give:Ast)(n most:Int):(Lgr × Int × Int) × Int:=
 if mT g get give n most≠0 then((lg0,0,0),mT g get give n most) else(((mS g taker get give n most).g,n - (mS g taker get give n most).want,most - (mS g taker get give n most).left),0)
theorem mU{g:Lgr}{sg by_:Ast}(hg:aH g=0):((lC g sg by_).map (·.id)).Nodup∧∀o ∈ lC g sg by_,o ∈ g.offers∧o.sg=sg∧o.by_=by_:=by
 have hp:(lC g sg by_).Perm (g.offers.filter (lF sg by_)):=List.mergeSort_perm _ _;refine⟨?_,fun o ho=>?_⟩
 ·rw[(hp.map _).nodup_iff];have h1:=(aS.1 hg).2.2.2.2;have h2:(g.offers.map (·.id)).Pairwise (fun a b=>a<b):=List.pairwise_map.2 h1;have h3:(g.offers.map (·.id)).Nodup:=h2.imp (fun {a b} h=>by omega);exact h3.sublist (List.Sublist.map _ List.filter_sublist)
 have:=List.mem_filter.1 (hp.mem_iff.1 ho);obtain⟨h1,h2⟩:=this;unfold lF at h2;simp only[Bool.and_eq_true,decide_eq_true_eq] at h2;exact⟨h1,h2⟩
theorem tM{g:Lgr}{get give:Ast}{n most:Int}(h:mT g get give n most=0):aH g=0∧aV get=true∧aV give=true∧get≠give∧(0≤n∧n≤1000000000000)∧0≤most∧most≤1000000000000:=by
 unfold mT at h;split at h
 ·contradiction
 split at h
 ·cases h
 split at h
 ·cases h
 rename_i h1 h2 h3;rw[not_or,not_or] at h2;rw[not_or] at h3;simp only[Bool.not_eq_false] at h2 h3;exact⟨by omega,h2.1,h2.2.1,h2.2.2,dE.1 h3.1,dE.1 h3.2⟩
theorem tN{g:Lgr}{taker:Int}{get give:Ast}{n most:Int}(h:mT g get give n most=0):eV (mS g taker get give n most)∧gA g (mS g taker get give n most).g:=by
 obtain⟨h1,h2,h3,h4,h5,h6⟩:=tM h;obtain⟨b1,b2⟩:=mU (sg:=get) (by_:=give) h1;exact tK taker _ ⟨g,n,most⟩ ⟨h1,h5,h6⟩ b1 (fun o ho=>List.mem_map_of_mem (b2 o ho).1)
def mov(g:Lgr)(frm:Int)(give:Ast)(paid to_:Int)(get:Ast)(n:Int):Lgr × Int:=
 if(dbt g frm give paid).2≠0 then(lg0,(dbt g frm give paid).2) else if(crd (dbt g frm give paid).1 to_ get n).2≠0 then(lg0,(crd (dbt g frm give paid).1 to_ get n).2) else crd (dbt g frm give paid).1 to_ get n
def pay(g:Lgr)(frm to_:Int)(a:Ast)(n:Int):Lgr × Int:=if aH g≠0 then(lg0,aH g) else if dW n=false then(lg0,65) else if frm=to_ then(lg0,67) else mov g frm a n to_ a n
def cR(frm:Int):List Ast→Lgr→Int→(Lgr × Int) × Int
 |get::give::r,g,need=>
  if get=give then cR frm (give::r) g need else
  if(crs g frm get give need 1000000000000).2≠0 then((lg0,0),(crs g frm get give need 1000000000000).2) else
  if(crs g frm get give need 1000000000000).1.2.1<need then((lg0,0),73) else
  cR frm (give::r) (crs g frm get give need 1000000000000).1.1 (crs g frm get give need 1000000000000).1.2.2
 |[_],g,need=>((g,need),0)
 |[],g,need=>((g,need),0)
def qE(g:Lgr)(give get:Ast)(path:List Ast)(n most:Int):Int:=if aH g≠0 then aH g else if aX n=false∨aX most=false∨n=0 then 65 else if aV give=false∨aV get=false∨gI path=false then 71 else 0
def jO(g:Lgr)(frm to_:Int)(give get:Ast)(path:List Ast)(n most:Int):(Lgr × Int) × Int:=
 if qE g give get path n most≠0 then((lg0,0),qE g give get path n most) else
 if(aK g.accs frm).isSome=false∨(aK g.accs to_).isSome=false∨frm=to_ then((lg0,0),67) else
 if(cR frm (([give]++path++[get]).reverse) g n).2≠0 then((lg0,0),(cR frm (([give]++path++[get]).reverse) g n).2) else
 if most<(cR frm (([give]++path++[get]).reverse) g n).1.2 then((lg0,0),66) else
 if(mov (cR frm (([give]++path++[get]).reverse) g n).1.1 frm give (cR frm (([give]++path++[get]).reverse) g n).1.2 to_ get n).2≠0 then((lg0,0),(mov (cR frm (([give]++path++[get]).reverse) g n).1.1 frm give (cR frm (([give]++path++[get]).reverse) g n).1.2 to_ get n).2) else
 (((mov (cR frm (([give]++path++[get]).reverse) g n).1.1 frm give (cR frm (([give]++path++[get]).reverse) g n).1.2 to_ get n).1,(cR frm (([give]++path++[get]).reverse) g n).1.2),0)
def qF(x:Ln)(acc:Int)(a:Ast):Int:=orL [fT x.acc acc,kB x.ast a]
def gtL(acc:Int)(a:Ast)(x:Ln):Bool:=decide (0<qF x acc a)
def qG(l:List Ln)(acc:Int)(a:Ast):Nat:=match l.findIdx? (gtL acc a) with
 |some k=>k
 |none=>l.length
def Av(a:Ast)(acc lim:Int):Int:=if aV a=false∨a=nat∨a.iss=acc∨acc<1∨1000<acc then 71 else if aX lim=false then 65 else 0
def vR(l:List Ln)(acc:Int)(a:Ast)(lim:Int):List Ln:=l.take (qG l acc a)++⟨acc,a,0,lim⟩::l.drop (qG l acc a)
def lmt(l:List Ln)(acc:Int)(a:Ast)(lim:Int):List Ln × Int:=
 if Av a acc lim≠0 then([],Av a acc lim) else match l.findIdx? (isL acc a) with
 |none=>if lim=0 then(l,0) else if 60≤l.length then([],3) else(vR l acc a lim,0)
 |some k=>match l[k]? with
  |none=>([],0)
  |some x=>if lim<x.bal then([],70) else if lim=0∧x.bal=0 then(l.eraseIdx k,0) else(l.set k {x with lim:=lim},0)
def cnl(g:Lgr)(s id:Int):Lgr × Int:=if aH g≠0 then(lg0,aH g) else match g.offers.findIdx? (isO id) with
 |none=>(lg0,72)
 |some k=>match g.offers[k]? with
  |none=>(lg0,72)
  |some o=>if o.sel≠s then(lg0,72) else(eU g k,0)
def iT(g:Lgr)(s:Int)(sg by_:Ast)(amt n d:Int):(Lgr × Int) × Int:=if dM g s sg by_ amt n d≠0 then((lg0,0),dM g s sg by_ amt n d) else((jJ g s sg by_ amt n d,g.nid),0)
def jP(g:Lgr)(src:Int)(o:Opr):List aQ × Int:=if(eW (eD o.amt) g.accs src).2=0 then qD (eW (eD o.amt) g.accs src).1 o.to_ o.amt else eW (eD o.amt) g.accs src
def wrk(g:Lgr)(src:Int)(o:Opr):Lgr × Int:=
 if o.kind=1 then({g with accs:=(jP g src o).1},(jP g src o).2)
 else if o.kind=2 then pay g src o.to_ o.ast o.amt
 else if o.kind=3 then({g with lines:=(lmt g.lines src o.ast o.amt).1},(lmt g.lines src o.ast o.amt).2)
 else if o.kind=4 then((iT g src o.ast o.oth o.amt o.num o.den).1.1,(iT g src o.ast o.oth o.amt o.num o.den).2)
 else if o.kind=5 then cnl g src o.id
 else((jO g src o.to_ o.oth o.ast o.path o.amt o.lim).1.1,(jO g src o.to_ o.oth o.ast o.path o.amt o.lim).2)
def doE(g:Lgr)(src:Int)(o:Opr):Int:=if aH g≠0 then aH g else if vOp o=false then 1 else if(aK g.accs src).isSome=false then 67 else 0
def doO(g:Lgr)(src:Int)(o:Opr):Lgr × Int:=if doE g src o≠0 then(lg0,doE g src o) else if(wrk g src o).2≠0 then(lg0,(wrk g src o).2) else((wrk g src o).1,0)
def gV(fH:Lgr)(src:Int):List Opr→Lgr→Int→Lgr × Int × Int
 |[],now,_=>(now,0,0)
 |o::r,now,i=>if(doO now src o).2≠0 then(fH,(doO now src o).2,i) else gV fH src r (doO now src o).1 (i+1)
def qH(g:Lgr)(t:Txn):Int:=if aH g≠0 then aH g else if vTx t=false then 1 else if(eW (fU t.seq t.fee) g.accs t.src).2≠0 then(eW (fU t.seq t.fee) g.accs t.src).2 else(lX g.fees t.fee).2
def fH(g:Lgr)(t:Txn):Lgr:={g with accs:=(eW (fU t.seq t.fee) g.accs t.src).1,fees:=(lX g.fees t.fee).1}
def fA(g:Lgr)(t:Txn):Lgr × Int × Int:=if qH g t≠0 then(g,qH g t, -1) else gV (fH g t) t.src t.ops (fH g t) 0
def cG:List Txn→Lgr→Lgr × List (Int × Int)
 |[],g=>(g,[])
 |t::r,g=>((cG r (fA g t).1).1,(fA g t).2::(cG r (fA g t).1).2)
def Aw(g:Lgr)(l:List Txn):Int:=if aH g≠0 then aH g else if cS l≠0 then cS l else if g.num=1000000 then 3 else 0
def Ax(g:Lgr)(l:List Txn):(Lgr × List (Int × Int)) × Int:=if Aw g l≠0 then((lg0,[]),Aw g l) else(({(cG l g).1 with num:=(cG l g).1.num+1},(cG l g).2),0)
def eM(g h:Lgr):Prop:=h.num=g.num∧h.fees=g.fees∧h.link=g.link∧∀id x,aK g.accs id=some x→∃y,aK h.accs id=some y∧y.seq=x.seq
theorem eM.refl(g:Lgr):eM g g:=⟨rfl,rfl,rfl,fun _ x h=>⟨x,h,rfl⟩⟩
theorem eM.trans{a b c:Lgr}(h:eM a b)(k:eM b c):eM a c:=⟨k.1.trans h.1,k.2.1.trans h.2.1,k.2.2.1.trans h.2.2.1,fun id x hx=>by
 obtain⟨y,hy,e1⟩:=h.2.2.2 id x hx;obtain⟨z,hz,e2⟩:=k.2.2.2 id y hy;exact⟨z,hz,e2.trans e1⟩⟩
theorem kQ:∀{l m:List aQ} (_:m.map (fun x=>(x.id,x.seq))=l.map (fun x=>(x.id,x.seq))) {id:Int} {x:aQ},aK l id=some x→∃y,aK m id=some y∧y.seq=x.seq
 |[],_,_,_,_,h=>by simp[aK] at h
 |a::l,[],e,_,_,_=>by simp at e
 |a::l,b::m,e,id,x,h=>by
  simp only[List.map_cons,List.cons.injEq,Prod.mk.injEq] at e;obtain⟨⟨e1,e2⟩,e3⟩:=e;unfold aK at h ⊢;rw[List.find?_cons] at h ⊢;have:isA id b=isA id a:=by unfold isA;rw[e1]
  rw[this];cases hq:isA id a with
  |true=>rw[hq] at h;simp only at h ⊢;injection h with h;subst h;exact⟨b,rfl,e2⟩
  |false=>rw[hq] at h;simp only at h ⊢;exact kQ e3 h
theorem gA.s{g h:Lgr}(k:gA g h):eM g h:=⟨k.1,k.2.2.1,k.2.2.2.1,fun _ _ hx=>kQ k.2.2.2.2.1 hx⟩
theorem vS{g:Lgr}{acc:Int}{a:Ast}{n:Int}(h:(crd g acc a n).2=0):gA g (crd g acc a n).1:=by
 rw[(lZ h).2.2.2];exact kP _ _ _ _
theorem mC{g:Lgr}{acc:Int}{a:Ast}{n:Int}(h:(dbt g acc a n).2=0):gA g (dbt g acc a n).1:=by
 rw[(mA h).2.2.2];exact kP _ _ _ _
def Cb(g:Lgr)(r:Lgr × Int):Prop:=r.2=0→aH r.1=0∧eM g r.1
theorem Cc{g:Lgr}(hg:aH g=0){frm:Int}{give:Ast}{paid to_:Int}{get:Ast}{n:Int}:Cb g (mov g frm give paid to_ get n):=by
 intro h;unfold mov at h ⊢;split at h
 ·contradiction
 rename_i h1;split at h
 ·contradiction
 rename_i h2;have h1:(dbt g frm give paid).2=0:=by omega
 have h2:(crd (dbt g frm give paid).1 to_ get n).2=0:=by omega
 rw[if_neg (by omega),if_neg (by omega)];exact⟨yQ (tJ hg h1) h2,(mC h1).s.trans (vS h2).s⟩
theorem Gi{g:Lgr}(hg:aH g=0){frm to_:Int}{a:Ast}{n:Int}:Cb g (pay g frm to_ a n):=by
 intro h;unfold pay at h ⊢;split at h
 ·contradiction
 split at h
 ·cases h
 split at h
 ·cases h
 rename_i h1 h2 h3;rw[if_neg h1,if_neg h2,if_neg h3];exact Cc hg h
theorem pT{g:Lgr}{taker:Int}{get give:Ast}{n most:Int}(h:(crs g taker get give n most).2=0):aH (crs g taker get give n most).1.1=0∧gA g (crs g taker get give n most).1.1:=by
 unfold crs at h ⊢;split at h
 ·contradiction
 rename_i h1;rw[if_neg h1];have:=tN (taker:=taker) (show mT g get give n most=0 by omega);exact⟨this.1.1,this.2⟩
theorem oD(frm:Int):∀(l:List Ast) (g:Lgr) (need:Int),aH g=0→(cR frm l g need).2=0→aH (cR frm l g need).1.1=0∧eM g (cR frm l g need).1.1
 |[],g,need,hg,_=>by unfold cR;exact⟨hg,eM.refl _⟩
 |[_],g,need,hg,_=>by unfold cR;exact⟨hg,eM.refl _⟩
 |get::give::r,g,need,hg,h=>by
  unfold cR at h ⊢;split at h
  ·rename_i h1;rw[if_pos h1];exact oD frm (give::r) g need hg h
  split at h
  ·contradiction
  split at h
  ·cases h
  rename_i h1 h2 h3;rw[if_neg h1,if_neg h2,if_neg h3];obtain⟨c1,c2⟩:=pT (show(crs g frm get give need 1000000000000).2=0 by omega);obtain⟨b1,b2⟩:=oD frm (give::r) _ _ c1 h;exact⟨b1,c2.s.trans b2⟩
theorem Gj{g:Lgr}(hg:aH g=0){frm to_:Int}{give get:Ast}{path:List Ast}{n most:Int}(h:(jO g frm to_ give get path n most).2=0):aH (jO g frm to_ give get path n most).1.1=0∧eM g (jO g frm to_ give get path n most).1.1:=by
 unfold jO at h ⊢;generalize hb:cR frm (([give]++path++[get]).reverse) g n=b at*
 split at h
 ·contradiction
 split at h
 ·cases h
 split at h
 ·contradiction
 split at h
 ·cases h
 split at h
 ·contradiction
 rename_i h1 h2 h3 h4 h5;rw[if_neg h1,if_neg h2,if_neg h3,if_neg h4,if_neg h5];obtain⟨b1,b2⟩:=oD frm (([give]++path++[get]).reverse) g n hg (by rw[hb];omega);rw[hb] at b1 b2;obtain⟨m1,m2⟩:=Cc b1 (show(mov b.1.1 frm give b.1.2 to_ get n).2=0 by omega);exact⟨m1,b2.trans m2⟩
theorem Gk{g:Lgr}(hg:aH g=0){s id:Int}:Cb g (cnl g s id):=by
 intro h;unfold cnl at h ⊢;split at h
 ·contradiction
 rename_i h1;rw[if_neg h1];cases e:g.offers.findIdx? (isO id) with
 |none=>rw[e] at h;cases h
 |some k=>
  rw[e] at h;simp only at h ⊢;cases e2:g.offers[k]? with
  |none=>rw[e2] at h;cases h
  |some o=>
   rw[e2] at h;simp only at h ⊢;split at h
   ·cases h
   rename_i h2;rw[if_neg h2];exact⟨vP hg,eM.refl _⟩
theorem Eo{g:Lgr}{s:Int}{sg by_:Ast}{amt n d:Int}(h:(iT g s sg by_ amt n d).2=0):aH (iT g s sg by_ amt n d).1.1=0∧eM g (iT g s sg by_ amt n d).1.1:=by
 unfold iT at h ⊢;split at h
 ·contradiction
 rename_i h1;rw[if_neg h1];exact⟨yH (by omega),eM.refl _⟩
theorem Gl{l:List aQ}{id:Int}(h:l.Pairwise (fun a b=>a.id<b.id)):(∀x ∈ l.take (jE l id),x.id<id)∧∀x ∈ l.drop (jE l id),id≤x.id:=by
 induction l with
 |nil=>simp
 |cons x r ih=>
  obtain⟨h1,h2⟩:=List.pairwise_cons.1 h;obtain⟨i1,i2⟩:=ih h2;unfold jE at i1 i2 ⊢;by_cases hx:x.id<id
  ·rw[List.countP_cons_of_pos (by simpa using hx),List.take_succ_cons,List.drop_succ_cons];refine⟨fun y hy=>?_,i2⟩;rcases List.mem_cons.1 hy with rfl|hy
   ·exact hx
   exact i1 y hy
  have h0:r.countP (fun x=>decide (x.id<id))=0:=by
   rw[List.countP_eq_zero];intro y hy;have:=h1 y hy;simp only[decide_eq_true_eq];omega
  rw[List.countP_cons_of_neg (by simpa using hx),h0,List.take_zero,List.drop_zero];refine⟨by simp,fun y hy=>?_⟩;rcases List.mem_cons.1 hy with rfl|hy
  ·omega
  have:=h1 y hy;omega
theorem Cd{α:Type}{r:α→α→Prop}{l:List α}{x:α}{k:Nat}(h:l.Pairwise r)(h1:∀y ∈ l.take k,r y x)(h2:∀y ∈ l.drop k,r x y):(l.take k++x::l.drop k).Pairwise r:=by
 have h':=h;rw[←List.take_append_drop k l,List.pairwise_append] at h';obtain⟨p1,p2,p3⟩:=h';rw[List.pairwise_append,List.pairwise_cons];refine⟨p1,⟨h2,p2⟩,fun a ha b hb=>?_⟩;rcases List.mem_cons.1 hb with rfl|hb
 ·exact h1 a ha
 exact p3 a ha b hb
theorem Ce{l:List aQ}{id:Int}(h:¬0≤tL l id):∀x ∈ l,x.id≠id:=by
 intro x hx e;unfold tL at h;rcases fI (isA id) l with⟨_,h2⟩|⟨k,_,h2,_⟩
 ·have:=List.find?_eq_none.1 h2 x hx;unfold isA at this;simp[e] at this
 rw[h2] at h;omega
theorem rP{l m:List aQ}(hs:∀x ∈ l,x ∈ m)(hm:m.Pairwise (fun a b=>a.id<b.id)){id:Int}{x:aQ}(h:aK l id=some x):aK m id=some x:=by
 have h1:=List.mem_of_find?_eq_some h;have h2:isA id x=true:=List.find?_some h;have h3:(aK m id).isSome=true:=by
  unfold aK;rw[List.find?_isSome];exact⟨x,hs x h1,h2⟩
 obtain⟨y,hy⟩:=Option.isSome_iff_exists.1 h3;have h4:=List.mem_of_find?_eq_some hy;have h5:isA id y=true:=List.find?_some hy;unfold isA at h2 h5;simp only[decide_eq_true_eq] at h2 h5;have:y=x:=by
  obtain⟨i,hi,rfl⟩:=List.getElem_of_mem h4;obtain⟨j,hj,rfl⟩:=List.getElem_of_mem (hs x h1);rcases Nat.lt_trichotomy i j with k|k|k
  ·have:=List.pairwise_iff_getElem.1 hm i j hi hj k;omega
  ·subst k;rfl
  have:=List.pairwise_iff_getElem.1 hm j i hj hi k;omega
 rw[hy,this]
theorem Cf{g:Lgr}{l:List aQ}(hg:aH g=0)(hl:cC l=0)(hs:∀id,(aK g.accs id).isSome=true→(aK l id).isSome=true):aH {g with accs:=l}=0:=by
 obtain⟨g1,g2,g3,g4,g5⟩:=aS.1 hg;obtain⟨l1,l2,l3,l4⟩:=bJ.1 g1;refine aS.2 ⟨bJ.2 ⟨hl,l2,fun x hx=>?_,l4⟩,g2,g3,fun o ho=>?_,g5⟩
 ·have:=l3 x hx;unfold kX at this ⊢;rw[Bool.and_eq_true] at this ⊢;exact⟨hs _ this.1,this.2⟩
 have:=g4 o ho;unfold jM at this ⊢;rw[Bool.and_eq_true] at this ⊢;exact⟨hs _ this.1,this.2⟩
theorem kR{f:aQ→aQ × Int}{l:List aQ}{id:Int}(h:(eW f l id).2=0):cC l=0∧∃k,∃hk:k<l.length,aK l id=some l[k]∧(f l[k]).2=0∧(eW f l id).1=l.set k (f l[k]).1:=by
 unfold eW at h ⊢;split at h
 ·cases h
 rename_i h1;rw[if_neg h1];refine⟨by omega,?_⟩;cases e:l.findIdx? (isA id) with
 |none=>rw[e] at h;cases h
 |some k=>
  obtain⟨hk,h2,h3⟩:=List.findIdx?_eq_some_iff_getElem.1 e;rw[e] at h;simp only[List.getElem?_eq_getElem hk] at h ⊢;split at h
  ·contradiction
  rename_i h4;rw[if_neg h4];refine⟨k,hk,?_,by omega,rfl⟩;unfold aK;rw[List.find?_eq_some_iff_getElem];exact⟨h2,k,hk,rfl,fun j hj=>by simpa using h3 j hj⟩
theorem Ep{l:List aQ}{k:Nat}{y:aQ}(hl:cC l=0)(hk:k<l.length)(hi:y.id=l[k].id)(hy:nP y=true):cC (l.set k y)=0:=by
 obtain⟨a1,a2,a3⟩:=bI.1 hl;refine bI.2 ⟨by simpa using a1,fun x hx=>?_,pP (h:=fun x:aQ=>x.id) (r:=fun a b=>a<b) (jC (fun x:aQ=>x.id) _ k hk y hi) a3⟩;rcases List.mem_or_eq_of_mem_set hx with hx|rfl
 ·exact a2 x hx
 exact hy
theorem tP{l:List aQ}{id n:Int}(h:(eW (eD n) l id).2=0):cC (eW (eD n) l id).1=0∧(eW (eD n) l id).1.map (fun x=>(x.id,x.seq))=l.map (fun x=>(x.id,x.seq)):=by
 obtain⟨h1,k,hk,h2,h3,h4⟩:=kR h;have hx:=cQ.1 ((bI.1 h1).2.1 _ (List.getElem_mem hk));rw[h4];have hf:eD n l[k]=({l[k] with bal:=l[k].bal - n},0)∧0≤n∧n≤l[k].bal:=by
  revert h3;unfold eD;cases hn:aX n with
  |false=>intro h;cases h
  |true=>
   have:=dE.1 hn;simp only[Bool.true_eq_false,if_false];split
   ·intro h;cases h
   intro _;exact⟨rfl,by omega,by omega⟩
 rw[hf.1];exact⟨Ep h1 hk rfl (cQ.2 ⟨hx.1,by simp only;omega,hx.2.2⟩),jC (fun x:aQ=>(x.id,x.seq)) _ k hk _ rfl⟩
theorem Az{l m:List aQ}(e:m.map (fun x=>(x.id,x.seq))=l.map (fun x=>(x.id,x.seq)))(id:Int)(h:(aK l id).isSome=true):(aK m id).isSome=true:=by
 obtain⟨x,hx⟩:=Option.isSome_iff_exists.1 h;obtain⟨y,hy,_⟩:=kQ e hx;rw[hy];rfl
theorem Eq{l:List aQ}{id bal:Int}(h:(qD l id bal).2=0):cC (qD l id bal).1=0∧∀x ∈ l,x ∈ (qD l id bal).1:=by
 unfold qD at h ⊢;split at h
 ·cases h
 split at h
 ·cases h
 split at h
 ·cases h
 split at h
 ·cases h
 rename_i h1 h2 h3 h4;rw[if_neg h1,if_neg h2,if_neg h3,if_neg h4];have h0:cC l=0:=by omega
 obtain⟨a1,a2,a3⟩:=bI.1 h0;obtain⟨p1,p2⟩:=Gl (id:=id) a3;rw[not_or] at h2;have hne:=Ce h2.2;have hid:1≤id∧id≤1000:=by
  have:inR id 1 1000=true:=by simpa using h2.1
  unfold inR at this;simpa using this
 have hb:=dE.1 (show aX bal=true by simpa using h3);refine⟨bI.2 ⟨?_,fun x hx=>?_,?_⟩,fun x hx=>?_⟩
 ·simp only[List.length_append,List.length_cons,List.length_take,List.length_drop];omega
 ·rcases List.mem_append.1 hx with hx|hx
  ·exact a2 x (List.mem_of_mem_take hx)
  rcases List.mem_cons.1 hx with rfl|hx
  ·exact cQ.2 ⟨hid,hb,by simp⟩
  exact a2 x (List.mem_of_mem_drop hx)
 ·refine Cd (r:=fun a b:aQ=>a.id<b.id) a3 p1 (fun y hy=>?_);have:=p2 y hy;have:=hne y (List.mem_of_mem_drop hy);simp only;omega
 rw[←List.take_append_drop (jE l id) l] at hx;rcases List.mem_append.1 hx with hx|hx
 ·exact List.mem_append_left _ hx
 exact List.mem_append_right _ (List.mem_cons_of_mem _ hx)
theorem Cg{g:Lgr}(hg:aH g=0){src:Int}{o:Opr}(h:(jP g src o).2=0):aH {g with accs:=(jP g src o).1}=0∧eM g {g with accs:=(jP g src o).1}:=by
 unfold jP at h ⊢;split at h
 ·rename_i h1;rw[if_pos h1];obtain⟨t1,t2⟩:=tP h1;obtain⟨c1,c2⟩:=Eq h;have hp:=(bI.1 c1).2.2;refine⟨Cf hg c1 (fun id hi=>?_),rfl,rfl,rfl,fun id x hx=>?_⟩
  ·obtain⟨x,hx⟩:=Option.isSome_iff_exists.1 (Az t2 id hi);rw[rP c2 hp hx];rfl
  obtain⟨y,hy,e⟩:=kQ t2 hx;exact⟨y,rP c2 hp hy,e⟩
 contradiction
theorem Ch:∀(a b:List UInt8),Op.bytesLess a b=true∨a=b∨Op.bytesLess b a=true
 |[],[]=>.inr (.inl rfl)
 |[],_::_=>.inl (by simp[Op.bytesLess])
 |_::_,[]=>.inr (.inr (by simp[Op.bytesLess]))
 |x::a,y::b=>by
  simp only[Op.bytesLess,Bool.or_eq_true,Bool.and_eq_true,decide_eq_true_eq,beq_iff_eq];by_cases h:x=y
  ·subst h;rcases Ch a b with h|h|h
   ·exact .inl (.inr ⟨rfl,h⟩)
   ·exact .inr (.inl (by rw[h]))
   exact .inr (.inr (.inr ⟨rfl,h⟩))
  have:x<y∨y<x:=by
   rcases Nat.lt_or_gt_of_ne (fun e=>h (UInt8.toNat_inj.1 e)) with h|h
   ·exact .inl h
   exact .inr h
  rcases this with h|h
  ·exact .inl (.inl h)
  exact .inr (.inr (.inl h))
theorem AA(a b:List UInt8):(cmB a b= -1∧ltL a b=true)∨(cmB a b=0∧a=b)∨(cmB a b=1∧ltL b a=true):=by
 unfold cmB;by_cases h:ltL a b=true
 ·rw[if_pos h];exact .inl ⟨rfl,h⟩
 rw[if_neg h];by_cases h2:a=b
 ·rw[if_pos h2];exact .inr (.inl ⟨rfl,h2⟩)
 rw[if_neg h2];rcases Ch a b with k|k|k
 ·exact absurd k h
 ·exact absurd k h2
 exact .inr (.inr ⟨rfl,k⟩)
theorem vT(a b:Ast):(kB a b<0∧eK a b=true)∨(kB a b=0∧a=b)∨(0<kB a b∧eK b a=true):=by
 obtain⟨c,i⟩:=a;obtain⟨d,j⟩:=b;unfold kB eK;simp only[orL,fT,Ast.mk.injEq];rcases AA c d with⟨h,k⟩|⟨h,k⟩|⟨h,k⟩
 ·rw[h,k];simp
 ·subst k;rw[h];by_cases h3:i<j
  ·simp[h3]
  by_cases h4:j<i
  ·simp[h3,h4]
  simp[h3,h4];omega
 rw[h,k];simp
theorem lG(x:Ln)(acc:Int)(a:Ast):(qF x acc a<0∧eP x acc a=true)∨(qF x acc a=0∧x.acc=acc∧x.ast=a)∨(0<qF x acc a∧(acc<x.acc∨(acc=x.acc∧eK a x.ast=true))):=by
 unfold qF eP;simp only[orL,fT];by_cases h1:x.acc<acc
 ·simp[h1]
 by_cases h2:acc<x.acc
 ·simp[h1,h2]
 have h3:x.acc=acc:=by omega
 rcases vT x.ast a with⟨h,k⟩|⟨h,k⟩|⟨h,k⟩
 ·simp[h3,k,Int.ne_of_lt h,h]
 ·subst k;simp[h3,h]
 simp[h3,k,(Int.ne_of_lt h).symm,h]
theorem Er{l:List Ln}{acc:Int}{a:Ast}(h:l.Pairwise (fun a b=>eP a b.acc b.ast=true))(hn:l.findIdx? (isL acc a)=none):qG l acc a≤l.length∧(∀x ∈ l.take (qG l acc a),eP x acc a=true)∧∀x ∈ l.drop (qG l acc a),eP ⟨acc,a,0,0⟩ x.acc x.ast=true:=by
 have hne:∀x ∈ l,¬(x.acc=acc∧x.ast=a):=fun x hx e=>by
  have:=List.findIdx?_eq_none_iff.1 hn x hx;unfold isL at this;simp[e] at this
 have hlt:∀x ∈ l,gtL acc a x=false→eP x acc a=true:=fun x hx hg=>by
  unfold gtL at hg;simp only[decide_eq_false_iff_not] at hg;rcases lG x acc a with⟨_,h⟩|⟨_,h⟩|⟨h,_⟩
  ·exact h
  ·exact absurd h (hne x hx)
  omega
 have hgt:∀x ∈ l,gtL acc a x=true→eP ⟨acc,a,0,0⟩ x.acc x.ast=true:=fun x hx hg=>by
  unfold gtL at hg;simp only[decide_eq_true_eq] at hg;rcases lG x acc a with⟨h,_⟩|⟨h,_⟩|⟨_,h⟩
  ·omega
  ·omega
  unfold eP;simpa using h
 unfold qG;cases e:l.findIdx? (gtL acc a) with
 |none=>
  have:=List.findIdx?_eq_none_iff.1 e;refine⟨Nat.le_refl _,fun x hx=>?_,by simp⟩;have hx:=List.mem_of_mem_take hx;exact hlt x hx (by simpa using this x hx)
 |some k=>
  obtain⟨hk,h1,h2⟩:=List.findIdx?_eq_some_iff_getElem.1 e;refine⟨by simp only;omega,fun x hx=>?_,fun x hx=>?_⟩
  ·simp only at hx;obtain⟨j,hj,rfl⟩:=List.getElem_of_mem hx;have hj2:j<k:=by rw[List.length_take] at hj;omega
   rw[List.getElem_take];exact hlt _ (List.getElem_mem _) (by simpa using h2 j hj2)
  simp only at hx;have hk2:=hgt _ (List.getElem_mem hk) h1;obtain⟨j,hj,rfl⟩:=List.getElem_of_mem hx;rw[List.getElem_drop];rcases Nat.eq_zero_or_pos j with rfl|hj0
  ·simpa using hk2
  have hj3:k+j<l.length:=by simp at hj;omega
  have:=List.pairwise_iff_getElem.1 h k (k+j) hk hj3 (by omega);exact pN (a:=⟨acc,a,0,0⟩) hk2 this
theorem kS{g:Lgr}{l:List Ln}(hg:aH g=0)(h1:l.length≤60)(h2:∀x ∈ l,kX g.accs x=true)(h3:l.Pairwise (fun a b=>eP a b.acc b.ast=true)):aH {g with lines:=l}=0:=by
 obtain⟨g1,g2,g3,g4,g5⟩:=aS.1 hg;obtain⟨l1,_⟩:=bJ.1 g1;exact aS.2 ⟨bJ.2 ⟨l1,h1,h2,h3⟩,g2,g3,g4,g5⟩
theorem Ci{g:Lgr}(hg:aH g=0){acc:Int}{a:Ast}{lim:Int}(ha:(aK g.accs acc).isSome=true)(h:(lmt g.lines acc a lim).2=0):aH {g with lines:=(lmt g.lines acc a lim).1}=0:=by
 have hl:=mB hg;obtain⟨l1,l2,l3,l4⟩:=bJ.1 hl;unfold lmt at h ⊢;split at h
 ·contradiction
 rename_i h1;rw[if_neg h1];have hv:aV a=true∧a≠nat∧a.iss≠acc∧aX lim=true:=by
  unfold Av at h1;split at h1
  ·contradiction
  split at h1
  ·contradiction
  rename_i h2 h3;simp only[not_or] at h2;exact⟨by simpa using h2.1,h2.2.1,h2.2.2.1,by simpa using h3⟩
 obtain⟨v1,v2,v3,v4⟩:=hv;cases e:g.lines.findIdx? (isL acc a) with
 |none=>
  rw[e] at h;simp only at h ⊢;split at h
  ·rename_i h2;rw[if_pos h2];exact kS hg l2 l3 l4
  split at h
  ·cases h
  rename_i h2 h3;rw[if_neg h2,if_neg h3];obtain⟨p1,p2,p3⟩:=Er l4 e;unfold vR;refine kS hg (by simp only[List.length_append,List.length_cons,List.length_take,List.length_drop];omega) (fun x hx=>?_) (Cd (r:=fun a b=>eP a b.acc b.ast=true) l4 p2 p3);rcases List.mem_append.1 hx with hx|hx
  ·exact l3 x (List.mem_of_mem_take hx)
  rcases List.mem_cons.1 hx with rfl|hx
  ·unfold kX;have:=dE.1 v4;simp[ha,v1,v2,v3,v4,this.1]
  exact l3 x (List.mem_of_mem_drop hx)
 |some k=>
  obtain⟨hk,_⟩:=List.findIdx?_eq_some_iff_getElem.1 e;rw[e] at h;simp only[List.getElem?_eq_getElem hk] at h ⊢;split at h
  ·cases h
  rename_i h2;rw[if_neg h2];split
  ·exact kS hg (Nat.le_trans (List.eraseIdx_sublist g.lines k).length_le l2) (fun x hx=>l3 x (List.mem_of_mem_eraseIdx hx)) (l4.sublist (List.eraseIdx_sublist _ _))
  refine kS hg (by simpa using l2) (fun x hx=>?_) (pP (h:=fun x:Ln=>(x.acc,x.ast)) (r:=fun a b=>(decide (a.1<b.1)||(decide (a.1=b.1)&&eK a.2 b.2))=true) (jC (fun x:Ln=>(x.acc,x.ast)) _ k hk _ rfl) l4);rcases List.mem_or_eq_of_mem_set hx with hx|rfl
  ·exact l3 x hx
  have:=l3 _ (List.getElem_mem hk);unfold kX at this ⊢;simp only[Bool.and_eq_true,decide_eq_true_eq] at this ⊢;obtain⟨q1,q2,q3,q4,q5,q6⟩:=this;exact⟨q1,q2,q3,q4,v4,q6.1,by omega⟩
theorem Cj{g:Lgr}(hg:aH g=0){src:Int}{o:Opr}(hs:(aK g.accs src).isSome=true):Cb g (wrk g src o):=by
 intro h;unfold wrk at h ⊢;split at h
 ·rename_i h1;rw[if_pos h1];exact Cg hg h
 rename_i h1;rw[if_neg h1];split at h
 ·rename_i h2;rw[if_pos h2];exact Gi hg h
 rename_i h2;rw[if_neg h2];split at h
 ·rename_i h3;rw[if_pos h3];exact⟨Ci hg hs h,rfl,rfl,rfl,fun _ x hx=>⟨x,hx,rfl⟩⟩
 rename_i h3;rw[if_neg h3];split at h
 ·rename_i h4;rw[if_pos h4];exact Eo h
 rename_i h4;rw[if_neg h4];split at h
 ·rename_i h5;rw[if_pos h5];exact Gk hg h
 rename_i h5;rw[if_neg h5];exact Gj hg h
theorem Gm{g:Lgr}{src:Int}{o:Opr}:Cb g (doO g src o):=by
 intro h;unfold doO at h ⊢;split at h
 ·contradiction
 rename_i h1;rw[if_neg h1];split at h
 ·contradiction
 rename_i h2;rw[if_neg h2];have hd:aH g=0∧(aK g.accs src).isSome=true:=by
  unfold doE at h1;split at h1
  ·contradiction
  split at h1
  ·contradiction
  split at h1
  ·contradiction
  rename_i k1 k2 k3;exact⟨by omega,eq_true_of_ne_false k3⟩
 exact Cj hd.1 hd.2 (by omega)
theorem lH(a:ByteArray)(w:World):Calls Tryz.prog 184 #[.string a] w fun e w'=>e= .returned (.bool false)∧w=w':=by
 have q:(!(a.toList == a.toList))=false:=by simp
 go_enter Tryz.func184,Tryz.ntmps184;go_wp2;go_ret;exact⟨cZ (by simp),rfl⟩
theorem xR(a b:List UInt8)(w:World):Calls Tryz.prog 161 #[.string (bL a),.string (bL b)] w fun e w'=>e= .returned (.int .i64 (cmB a b))∧w=w':=by
 by_cases h1:ltL a b=true
 ·have HX:Hid (cmB a b= -1):=by unfold Hid cmB;rw[if_pos h1]
  have q1:Op.bytesLess (bL a).toList (bL b).toList=true:=by rw[bQ,bQ];exact h1
  clear h1;go_enter Tryz.func161,Tryz.ntmps161;go_wp2_with (go_at_call 184;refine(lH _ _).mono ?_;rintro e w' ⟨rfl,rfl⟩);all_goals(go_ret;exact⟨aM HX.out.symm,rfl⟩)
 have h1:ltL a b=false:=by simpa using h1
 have q1:Op.bytesLess (bL a).toList (bL b).toList=false:=by rw[bQ,bQ];exact h1
 by_cases h2:a=b
 ·have HX:Hid (cmB a b=0):=by unfold Hid cmB;rw[if_neg (by rw[h1];simp),if_pos h2]
  have q2:((bL a).toList == (bL b).toList)=true:=by rw[bQ,bQ,beq_iff_eq];exact h2
  clear h1 h2;go_enter Tryz.func161,Tryz.ntmps161;go_wp2_with (go_at_call 184;refine(lH _ _).mono ?_;rintro e w' ⟨rfl,rfl⟩);all_goals(go_ret;exact⟨aM HX.out.symm,rfl⟩)
 have HX:Hid (cmB a b=1):=by unfold Hid cmB;rw[if_neg (by rw[h1];simp),if_neg h2]
 have q2:((bL a).toList == (bL b).toList)=false:=by rw[bQ,bQ,beq_eq_false_iff_ne];exact h2
 clear h1 h2;go_enter Tryz.func161,Tryz.ntmps161;go_wp2_with (go_at_call 184;refine(lH _ _).mono ?_;rintro e w' ⟨rfl,rfl⟩);all_goals(go_ret;exact⟨aM HX.out.symm,rfl⟩)
def dK(w:World)(b:Nat)(a:Ast):Prop:=w.heap[b]?=some (.cells #[.string (bL a.code),.int .i64 a.iss] 46 (0,0))
theorem dK.fr{w w':World}{b:Nat}{a:Ast}{r:Option Nat}(h:dK w b a)(f:Fr r w w')(hr:r≠some b:=by simp):dK w' b a:=aF h f hr
theorem dK.cells{w:World}{b:Nat}{a:Ast}(h:dK w b a):w.cell? ⟨b,0,none⟩=some (.string (bL a.code))∧w.cell? ⟨b,1,none⟩=some (.int .i64 a.iss):=by
 constructor<;>(rw[aA h];rfl)
theorem Ck(x y:Ast)(w:World):Calls Tryz.prog 125 #[.agg #[.string (bL x.code),.int .i64 x.iss],.agg #[.string (bL y.code),.int .i64 y.iss]] w fun e w'=>e= .returned (.int .i64 (kB x y))∧Fr none w w':=by
 obtain⟨C1,hC1⟩:∃C,C=cmB x.code y.code:=⟨_,rfl⟩;obtain⟨C2,hC2⟩:∃C,C=fT x.iss y.iss:=⟨_,rfl⟩;have HE:Hid (orL [C1,C2]=kB x y):=by unfold Hid kB;rw[hC1,hC2]
 have HW:Hid (∀n ∈ [C1,C2],Wi n):=by unfold Hid;rw[hC1,hC2];simp[kN,Ca]
 have H1:=sH hC1;have H2:=sH hC2;clear hC1 hC2;go_enter Tryz.func125,Tryz.ntmps125;go_upto_region 1 with(fail)
 generalize hW:w.alloc _=wa;have F1:Fr none w wa:=hW▸(Fr.refl none w).alloc _;have b1:dK wa w.heap.size x:=by rw[←hW];exact aD _ _
 have sa:w.heap.size+1=wa.heap.size:=by rw[←hW];exact(Array.size_push _).symm
 clear hW;generalize hW:wa.alloc _=w1;have F2:Fr none wa w1:=hW▸(Fr.refl none wa).alloc _;have b2:dK w1 (w.heap.size+1) y:=by rw[←hW,sa];exact aD _ _
 have b1:=b1.fr F2;clear hW sa;have FF:=F1.pure F2;clear F1 F2;refine aL (fun W=>Fr none w1 W) 10 17 [some 14,some 13,some 12,some 11,some 10,some 9,some 8,some 7,some 6,some 5] (by kernel_rfl) (by kernel_rfl) (by kernel_rfl) (Nat.le_refl _) ((Fr.refl _ _).drew) ?_;refine FxL.p [] [2] ?_;have HF1:=sH (fun(w:World) (hS:(fun W=>Fr none w1 W) w)=>And.intro ((b1.fr hS).cells) ((b2.fr hS).cells));refine FxL.q HF1.out [(0,0,5)] [] ?_;refine FxL.p [] [3] ?_;refine FxL.q HF1.out [(0,2,7)] [] ?_;refine FxL.call (v:=?_) (f:=?_) (args:=?_) rfl (fun ev w hS E=>?_) (fun w hS=>?_) ?_;rotate_left 3
 ·obtain⟨c0,c1⟩:=(b1.fr hS).cells;obtain⟨d0,d1⟩:=(b2.fr hS).cells;obtain⟨t6,t8,ec,ef,eg⟩:=E.get [(2,1,6),(0,3,8)] [] (by kernel_rfl);clear E;simp only[aG] at t6 t8;go_simp;first|(refine And.intro ?_ ?_<;>with_reducible rfl)|with_reducible rfl
 ·obtain⟨c0,c1⟩:=(b1.fr hS).cells;obtain⟨d0,d1⟩:=(b2.fr hS).cells;refine(xR x.code y.code w).mono ?_;rintro e w2 ⟨rfl,rfl⟩;refine⟨?_,hS⟩;with_reducible rfl
 refine FxL.p [] [2] ?_;refine FxL.q HF1.out [(0,5,10)] [] ?_;refine FxL.p [] [3] ?_;refine FxL.q HF1.out [(0,7,12)] [] ?_;refine FxL.call (v:=?_) (f:=?_) (args:=?_) rfl (fun ev w hS E=>?_) (fun w hS=>?_) ?_;rotate_left 3
 ·obtain⟨c0,c1⟩:=(b1.fr hS).cells;obtain⟨d0,d1⟩:=(b2.fr hS).cells;obtain⟨t11,t13,ec,ef,eg⟩:=E.get [(2,6,11),(0,8,13)] [] (by kernel_rfl);clear E;simp only[aG] at t11 t13;go_simp;first|(refine And.intro ?_ ?_<;>with_reducible rfl)|with_reducible rfl
 ·obtain⟨c0,c1⟩:=(b1.fr hS).cells;obtain⟨d0,d1⟩:=(b2.fr hS).cells;refine(dC x.iss y.iss w).mono ?_;rintro e w2 ⟨rfl,rfl⟩;refine⟨?_,hS⟩;with_reducible rfl
 refine FxL.done (fun W hW=>?_);simp only[bF];try simp only[sI]
 try simp only[sK]
 rw[←H1.out,←H2.out];go_wp2_with fail;refine(sW [C1,C2] _ _ none ⟨SlD.lit_dm (r:=none) #[.int .i64 C1,.int .i64 C2] 3 2 1 rfl (by decide) (by simp) (Fr.refl _ _),HW.out⟩).mono ?_;rintro e5 w5 ⟨rfl,rfl⟩;go_wp2;go_ret;exact⟨by rw[HE.out];rfl,FF.pure (hW.alloc _)⟩
theorem Es:cH Tryz.prog 25 59 3 24:=cH.mk_ (z:=.agg #[.int .i64 0,.int .i64 0,.int .i64 0]) (by kernel_rfl) (by kernel_rfl) rfl (by omega)
theorem Cl:cH Tryz.prog 26 74 5 48:=cH.mk_ (z:=.agg #[.int .i64 0,.string ⟨#[]⟩,.int .i64 0,.int .i64 0,.int .i64 0]) (by kernel_rfl) (by kernel_rfl) rfl (by omega)
theorem Et:cH Tryz.prog 27 67 9 88:=cH.mk_ (z:=.agg #[.int .i64 0,.int .i64 0,.string ⟨#[]⟩,.int .i64 0,.string ⟨#[]⟩,.int .i64 0,.int .i64 0,.int .i64 0,.int .i64 0]) (by kernel_rfl) (by kernel_rfl) rfl (by omega)
theorem tw6{p:Prop}(h:p:=by
 go_wp2_with fail;refine(HFk wr F).mono ?_;rintro e w2 ⟨rfl,F2⟩;clear HFk c0 c1;cases hv:p y with
 |false=>
  have HV:=sH hv;clear hv;go_wp2_with fail;go_roundw
  case rel=>exact⟨k+1,by omega,by go_num,F.pure F2,fun j hj hjk=>by
   rcases Nat.lt_or_ge j k with hh|hh
   ·exact HN.out j hj hh
   obtain rfl:j=k:=by omega
   rw[←HY.out];exact HV.out⟩
  case measure=>simp[intOf];omega
 |true=>
  have HV:=sH hv;clear hv;have HX:Hid (dG p l=(k:Int)):=nV hlt (by rw[←HY.out];exact HV.out) HN.out;go_wp2;go_ret;exact⟨by rw[HX.out];rfl,F.pure F2⟩):p:=h
theorem yS(p:aQ→Bool)(f:FuncId)(caps:Array Value)(hrun:∀args w,Sem.run Tryz.prog (callFunc f args) w= .ok (.enter f args) w)(l:List aQ)(v:Value)(w:World)(h:SlR aP w none v l)
  (hf:∀y ∈ l,∀W,Fr none w W→Calls Tryz.prog f (#[.agg (aP.enc y).toArray]++caps) W fun e W'=>e= .returned (.bool (p y))∧Fr none W W'):Calls Tryz.prog 107 #[v,.func (.func f) #[] caps] w fun e w'=>e= .returned (.int .i64 (dG p l))∧Fr none w w':=by
 obtain⟨A,c,rfl,q1,q2,hc⟩:=h.open_;have HC:=sH hc;have HF:=sH hf;clear h hc hf;go_enter Tryz.func107,Tryz.ntmps107;go_wp2_with fail;go_loopw [8] (fun s8 wr=>∃k:Nat,k≤l.length∧s8= .int .i64 (k:Int)∧Fr none w wr∧Hid (∀j (hj:j<l.length),j<k→p l[j]=false)) (fun s8 _=>l.length - (intOf s8).toNat)
 case atStart=>exact⟨0,Nat.zero_le _,rfl,Fr.refl _ _,sH (fun j hj h=>by omega)⟩
 case round=>
  obtain⟨k,hk,rfl,F,HN⟩:=hrel;by_cases hlt:k<l.length
  ·obtain⟨b,off,rfl,hb,_,hcc⟩:=HC.out (by omega);have hcc:=hcc k hlt;have HFk:=HF.out l[k] (List.getElem_mem hlt);obtain⟨y,hy⟩:∃y,y=l[k]:=⟨_,rfl⟩;rw[←hy] at hcc HFk;have HY:=sH hy;clear hy;have c0:World.cell? wr ⟨b,off+k*3,none⟩=some (.int .i64 y.id):=F.keep (hcc 0 _ rfl);have c1:World.cell? wr ⟨b,off+k*3+1,none⟩=some (.int .i64 y.bal):=F.keep (hcc 1 _ rfl);have c2:World.cell? wr ⟨b,off+k*3+2,none⟩=some (.int .i64 y.seq):=F.keep (hcc 2 _ rfl);clear hcc;exact tw6
  obtain rfl:k=l.length:=by omega
  have HX:Hid (dG p l= -1):=eY fun j hj=>HN.out j hj hj;go_wp2;go_ret;exact⟨by rw[HX.out];rfl,F⟩
theorem yT(p:Ln→Bool)(f:FuncId)(caps:Array Value)(hrun:∀args w,Sem.run Tryz.prog (callFunc f args) w= .ok (.enter f args) w)(l:List Ln)(v:Value)(w:World)(h:SlR lnR w none v l)
  (hf:∀y ∈ l,∀W,Fr none w W→Calls Tryz.prog f (#[.agg (lnR.enc y).toArray]++caps) W fun e W'=>e= .returned (.bool (p y))∧Fr none W W'):Calls Tryz.prog 148 #[v,.func (.func f) #[] caps] w fun e w'=>e= .returned (.int .i64 (dG p l))∧Fr none w w':=by
 obtain⟨A,c,rfl,q1,q2,hc⟩:=h.open_;have HC:=sH hc;have HF:=sH hf;clear h hc hf;go_enter Tryz.func148,Tryz.ntmps148;go_wp2_with fail;go_loopw [8] (fun s8 wr=>∃k:Nat,k≤l.length∧s8= .int .i64 (k:Int)∧Fr none w wr∧Hid (∀j (hj:j<l.length),j<k→p l[j]=false)) (fun s8 _=>l.length - (intOf s8).toNat)
 case atStart=>exact⟨0,Nat.zero_le _,rfl,Fr.refl _ _,sH (fun j hj h=>by omega)⟩
 case round=>
  obtain⟨k,hk,rfl,F,HN⟩:=hrel;by_cases hlt:k<l.length
  ·obtain⟨b,off,rfl,hb,_,hcc⟩:=HC.out (by omega);have hcc:=hcc k hlt;have HFk:=HF.out l[k] (List.getElem_mem hlt);obtain⟨y,hy⟩:∃y,y=l[k]:=⟨_,rfl⟩;rw[←hy] at hcc HFk;have HY:=sH hy;clear hy;have c0:World.cell? wr ⟨b,off+k*5,none⟩=some (.int .i64 y.acc):=F.keep (hcc 0 _ rfl);have c1:World.cell? wr ⟨b,off+k*5+1,none⟩=some (.string (bL y.ast.code)):=F.keep (hcc 1 _ rfl);have c2:World.cell? wr ⟨b,off+k*5+2,none⟩=some (.int .i64 y.ast.iss):=F.keep (hcc 2 _ rfl);have c3:World.cell? wr ⟨b,off+k*5+3,none⟩=some (.int .i64 y.bal):=F.keep (hcc 3 _ rfl);have c4:World.cell? wr ⟨b,off+k*5+4,none⟩=some (.int .i64 y.lim):=F.keep (hcc 4 _ rfl);clear hcc;exact tw6
  obtain rfl:k=l.length:=by omega
  have HX:Hid (dG p l= -1):=eY fun j hj=>HN.out j hj hj;go_wp2;go_ret;exact⟨by rw[HX.out];rfl,F⟩
theorem yU(p:Ofr→Bool)(f:FuncId)(caps:Array Value)(hrun:∀args w,Sem.run Tryz.prog (callFunc f args) w= .ok (.enter f args) w)(l:List Ofr)(v:Value)(w:World)(h:SlR ofR w none v l)
  (hf:∀y ∈ l,∀W,Fr none w W→Calls Tryz.prog f (#[.agg (ofR.enc y).toArray]++caps) W fun e W'=>e= .returned (.bool (p y))∧Fr none W W'):Calls Tryz.prog 155 #[v,.func (.func f) #[] caps] w fun e w'=>e= .returned (.int .i64 (dG p l))∧Fr none w w':=by
 obtain⟨A,c,rfl,q1,q2,hc⟩:=h.open_;have HC:=sH hc;have HF:=sH hf;clear h hc hf;go_enter Tryz.func155,Tryz.ntmps155;go_wp2_with fail;go_loopw [8] (fun s8 wr=>∃k:Nat,k≤l.length∧s8= .int .i64 (k:Int)∧Fr none w wr∧Hid (∀j (hj:j<l.length),j<k→p l[j]=false)) (fun s8 _=>l.length - (intOf s8).toNat)
 case atStart=>exact⟨0,Nat.zero_le _,rfl,Fr.refl _ _,sH (fun j hj h=>by omega)⟩
 case round=>
  obtain⟨k,hk,rfl,F,HN⟩:=hrel;by_cases hlt:k<l.length
  ·obtain⟨b,off,rfl,hb,_,hcc⟩:=HC.out (by omega);have hcc:=hcc k hlt;have HFk:=HF.out l[k] (List.getElem_mem hlt);obtain⟨y,hy⟩:∃y,y=l[k]:=⟨_,rfl⟩;rw[←hy] at hcc HFk;have HY:=sH hy;clear hy;have c0:World.cell? wr ⟨b,off+k*9,none⟩=some (.int .i64 y.id):=F.keep (hcc 0 _ rfl);have c1:World.cell? wr ⟨b,off+k*9+1,none⟩=some (.int .i64 y.sel):=F.keep (hcc 1 _ rfl);have c2:World.cell? wr ⟨b,off+k*9+2,none⟩=some (.string (bL y.sg.code)):=F.keep (hcc 2 _ rfl);have c3:World.cell? wr ⟨b,off+k*9+3,none⟩=some (.int .i64 y.sg.iss):=F.keep (hcc 3 _ rfl);have c4:World.cell? wr ⟨b,off+k*9+4,none⟩=some (.string (bL y.by_.code)):=F.keep (hcc 4 _ rfl);have c5:World.cell? wr ⟨b,off+k*9+5,none⟩=some (.int .i64 y.by_.iss):=F.keep (hcc 5 _ rfl);have c6:World.cell? wr ⟨b,off+k*9+6,none⟩=some (.int .i64 y.amt):=F.keep (hcc 6 _ rfl);have c7:World.cell? wr ⟨b,off+k*9+7,none⟩=some (.int .i64 y.num):=F.keep (hcc 7 _ rfl);have c8:World.cell? wr ⟨b,off+k*9+8,none⟩=some (.int .i64 y.den):=F.keep (hcc 8 _ rfl);clear hcc;exact tw6
  obtain rfl:k=l.length:=by omega
  have HX:Hid (dG p l= -1):=eY fun j hj=>HN.out j hj hj;go_wp2;go_ret;exact⟨by rw[HX.out];rfl,F⟩
theorem mV(l:List aQ)(v:Value)(w:World)(h:SlR aP w none v l)(hl:l.length≤1000000):
  Calls Tryz.prog 54 #[v] w fun e w'=>∃A c,e= .returned (.slice A l.length c)∧w'.ownsRow w.heap.size 59 3 (.slice A l.length c) l.length (flR aP l)∧Fr none w w':=by
 obtain⟨A,c,rfl,q1,q2,hcc⟩:=h.open_;cases A with
 |none=>
  have h0:l.length=0:=by
   rcases Nat.eq_zero_or_pos l.length with h|h
   ·exact h
   obtain⟨b,off,e,_⟩:=hcc h;cases e
  obtain rfl:=List.eq_nil_of_length_eq_zero h0;have hnil:∀w,Sem.run Tryz.prog (binOp .eql 25 (.slice none 0 c) (.slice none 0 0)) w= .ok (.bool true) w:=fun w=>Lib.run_eql_slice_nil w _ _ none _ _ _ _ (by kernel_rfl:Tryz.prog.underlying 25=some (.slice 59));clear h hcc;have e0:([]:List aQ).length=0:=rfl;rw[e0];clear e0;go_enter Tryz.func54,Tryz.ntmps54;go_wp2;go_ret;exact⟨none,0,rfl,World.ownsRow_nil _ _ _ _,Fr.refl _ _⟩
 |some a=>
  have own0:=tB (w:=w) 59 3 w.heap.size (Nat.le_refl _) rfl;have HO:=sH own0;have HS:=sH (h.fr ((Fr.refl none w).alloc (.cells #[] 59))).1.any;clear own0 hcc;have hnil:∀w,Sem.run Tryz.prog (binOp .eql 25 (.slice (some a) l.length c) (.slice none 0 0)) w= .ok (.bool false) w:=fun w=>Lib.run_eql_slice_nil w _ _ (some a) _ _ _ _ (by kernel_rfl:Tryz.prog.underlying 25=some (.slice 59));go_enter Tryz.func54,Tryz.ntmps54;go_wp2_with (at_builtin;refine fB Es rfl _ _ rfl w.heap.size (some ⟨w.heap.size,0,none⟩) 0 0 [] rfl HO.out (some a) l.length c (flR aP l) rfl HS.out (dA aP l) (by omega) (by unfold maxLen;omega) (by simp) ?_;intro C' c' w' own' F' bl');go_ret;have ow:w'.ownsRow w.heap.size 59 3 (.slice C' l.length c') l.length (flR aP l):=by
   have:=own';rw[Nat.zero_add] at this;exact this
  exact⟨C',c',rfl,ow,((Fr.refl none w).alloc _).own F' (bH HO.out)⟩
theorem rQ(l:List Ln)(v:Value)(w:World)(h:SlR lnR w none v l)(hl:l.length≤1000000):
  Calls Tryz.prog 55 #[v] w fun e w'=>∃A c,e= .returned (.slice A l.length c)∧w'.ownsRow w.heap.size 74 5 (.slice A l.length c) l.length (flR lnR l)∧Fr none w w':=by
 obtain⟨A,c,rfl,q1,q2,hcc⟩:=h.open_;cases A with
 |none=>
  have h0:l.length=0:=by
   rcases Nat.eq_zero_or_pos l.length with h|h
   ·exact h
   obtain⟨b,off,e,_⟩:=hcc h;cases e
  obtain rfl:=List.eq_nil_of_length_eq_zero h0;have hnil:∀w,Sem.run Tryz.prog (binOp .eql 26 (.slice none 0 c) (.slice none 0 0)) w= .ok (.bool true) w:=fun w=>Lib.run_eql_slice_nil w _ _ none _ _ _ _ (by kernel_rfl:Tryz.prog.underlying 26=some (.slice 74));clear h hcc;have e0:([]:List Ln).length=0:=rfl;rw[e0];clear e0;go_enter Tryz.func55,Tryz.ntmps55;go_wp2;go_ret;exact⟨none,0,rfl,World.ownsRow_nil _ _ _ _,Fr.refl _ _⟩
 |some a=>
  have own0:=tB (w:=w) 74 5 w.heap.size (Nat.le_refl _) rfl;have HO:=sH own0;have HS:=sH (h.fr ((Fr.refl none w).alloc (.cells #[] 74))).1.any;clear own0 hcc;have hnil:∀w,Sem.run Tryz.prog (binOp .eql 26 (.slice (some a) l.length c) (.slice none 0 0)) w= .ok (.bool false) w:=fun w=>Lib.run_eql_slice_nil w _ _ (some a) _ _ _ _ (by kernel_rfl:Tryz.prog.underlying 26=some (.slice 74));go_enter Tryz.func55,Tryz.ntmps55;go_wp2_with (at_builtin;refine fB Cl rfl _ _ rfl w.heap.size (some ⟨w.heap.size,0,none⟩) 0 0 [] rfl HO.out (some a) l.length c (flR lnR l) rfl HS.out (dA lnR l) (by omega) (by unfold maxLen;omega) (by simp) ?_;intro C' c' w' own' F' bl');go_ret;have ow:w'.ownsRow w.heap.size 74 5 (.slice C' l.length c') l.length (flR lnR l):=by
   have:=own';rw[Nat.zero_add] at this;exact this
  exact⟨C',c',rfl,ow,((Fr.refl none w).alloc _).own F' (bH HO.out)⟩
theorem rR(l:List Ofr)(v:Value)(w:World)(h:SlR ofR w none v l)(hl:l.length≤1000000):
  Calls Tryz.prog 56 #[v] w fun e w'=>∃A c,e= .returned (.slice A l.length c)∧w'.ownsRow w.heap.size 67 9 (.slice A l.length c) l.length (flR ofR l)∧Fr none w w':=by
 obtain⟨A,c,rfl,q1,q2,hcc⟩:=h.open_;cases A with
 |none=>
  have h0:l.length=0:=by
   rcases Nat.eq_zero_or_pos l.length with h|h
   ·exact h
   obtain⟨b,off,e,_⟩:=hcc h;cases e
  obtain rfl:=List.eq_nil_of_length_eq_zero h0;have hnil:∀w,Sem.run Tryz.prog (binOp .eql 27 (.slice none 0 c) (.slice none 0 0)) w= .ok (.bool true) w:=fun w=>Lib.run_eql_slice_nil w _ _ none _ _ _ _ (by kernel_rfl:Tryz.prog.underlying 27=some (.slice 67));clear h hcc;have e0:([]:List Ofr).length=0:=rfl;rw[e0];clear e0;go_enter Tryz.func56,Tryz.ntmps56;go_wp2;go_ret;exact⟨none,0,rfl,World.ownsRow_nil _ _ _ _,Fr.refl _ _⟩
 |some a=>
  have own0:=tB (w:=w) 67 9 w.heap.size (Nat.le_refl _) rfl;have HO:=sH own0;have HS:=sH (h.fr ((Fr.refl none w).alloc (.cells #[] 67))).1.any;clear own0 hcc;have hnil:∀w,Sem.run Tryz.prog (binOp .eql 27 (.slice (some a) l.length c) (.slice none 0 0)) w= .ok (.bool false) w:=fun w=>Lib.run_eql_slice_nil w _ _ (some a) _ _ _ _ (by kernel_rfl:Tryz.prog.underlying 27=some (.slice 67));go_enter Tryz.func56,Tryz.ntmps56;go_wp2_with (at_builtin;refine fB Et rfl _ _ rfl w.heap.size (some ⟨w.heap.size,0,none⟩) 0 0 [] rfl HO.out (some a) l.length c (flR ofR l) rfl HS.out (dA ofR l) (by omega) (by unfold maxLen;omega) (by simp) ?_;intro C' c' w' own' F' bl');go_ret;have ow:w'.ownsRow w.heap.size 67 9 (.slice C' l.length c') l.length (flR ofR l):=by
   have:=own';rw[Nat.zero_add] at this;exact this
  exact⟨C',c',rfl,ow,((Fr.refl none w).alloc _).own F' (bH HO.out)⟩
theorem yV(n:Int)(w:World):Calls Tryz.prog 123 #[.int .i64 n] w fun e w'=>e= .returned (.bool (inR n 1 1000))∧w'=w:=by
 by_cases h1:1≤n
 ·by_cases h2:n≤1000
  ·have HX:Hid (inR n 1 1000=true):=eF.2 ⟨h1,h2⟩;go_enter Tryz.func123,Tryz.ntmps123;go_wp2;go_ret;exact⟨cZ HX.out.symm,rfl⟩
  have HX:Hid (inR n 1 1000=false):=by unfold Hid inR;rw[decide_eq_false h2];simp
  go_enter Tryz.func123,Tryz.ntmps123;go_wp2;go_ret;exact⟨cZ HX.out.symm,rfl⟩
 have HX:Hid (inR n 1 1000=false):=by unfold Hid inR;rw[decide_eq_false h1];rfl
 go_enter Tryz.func123,Tryz.ntmps123;go_wp2;go_ret;exact⟨cZ HX.out.symm,rfl⟩
theorem Cm{l:List aQ}{j m:Nat}{x y:aQ}(hm:0<j→j=m+1)(hy:l[m]?=some y):iX (bK l j) x= !(!inR x.id 1 1000||(decide (0<j)&&decide (x.id≤y.id))|| !aX x.bal||decide (x.seq<0)||decide (1000000<x.seq)):=by
 have hi:inR x.id 1 1000=decide (1≤x.id∧x.id≤1000):=by
  rw[Bool.eq_iff_iff,eF,decide_eq_true_iff]
 unfold iX nP bK;rw[hi];generalize aX x.bal=v;rw[Bool.eq_iff_iff];by_cases h0:j=0
 ·subst h0;cases v<;>simp;omega
 have:=hm (by omega);subst this;cases v<;>simp[hy];omega
theorem iU(l:List aQ)(v:Value)(w:World)(h:SlR aP w none v l):Calls Tryz.prog 85 #[v] w fun e w'=>e= .returned (.int .i64 (cC l))∧Fr none w w':=by
 obtain⟨V,hV⟩:∃V,V=cC l:=⟨_,rfl⟩;rw[←hV];have HV:=sH hV;clear hV;obtain⟨A,c,rfl,q1,q2,hc⟩:=aN h;have HC:=sH hc;clear hc;by_cases hl:20<l.length
 ·have hd:decide ((20:Int)<(l.length:Int))=true:=decide_eq_true (by omega);have HX:Hid (V=3):=by unfold Hid;rw[HV.out];unfold cC;rw[if_pos hl]
  clear hl;go_enter Tryz.func85,Tryz.ntmps85;go_wp2;go_ret;exact⟨aM HX.out.symm,Fr.refl _ _⟩
 have hd:decide ((20:Int)<(l.length:Int))=false:=decide_eq_false (by omega);have HVl:Hid (V=if bV iX none l=true then 0 else 74):=by unfold Hid;rw[HV.out];unfold cC;rw[if_neg hl]
 clear hl HV;go_enter Tryz.func85,Tryz.ntmps85;go_wp2_with fail;go_loopw [10] (fun s10 wr=>∃j:Nat,j≤l.length∧s10= .int .i64 (j:Int)∧Hid (∀k (hk:k<l.length),k<j→iX (bK l k) l[k]=true)∧Fr none w wr) (fun s10 _=>l.length - (intOf s10).toNat)
 case atStart=>exact⟨0,by omega,rfl,fun k _ hk=>by omega,Fr.refl _ _⟩
 case round=>
  obtain⟨j,hj,rfl,HJ,F⟩:=hrel;obtain⟨wz,hwz⟩:∃wz:World,wz=wr:=⟨_,rfl⟩;subst hwz;by_cases hlt:j<l.length
  ·obtain⟨b,off,rfl,hb,_,hcc⟩:=HC.out (by omega);obtain⟨c1,c2,c3⟩:=hcc j hlt;have c1:=F.keep c1;have c2:=F.keep c2;have c3:=F.keep c3;have HNo:Hid (iX (bK l j) l[j]=false→V=74):=fun h=>by rw[HVl.out,if_neg (by rw[gC hlt h];simp)]
   have HYes:Hid (iX (bK l j) l[j]=true→∀k (hk:k<l.length),k<j+1→iX (bK l k) l[k]=true):=fun h k hk hkj=>by
    rcases Nat.lt_or_ge k j with hh|hh
    ·exact HJ.out k hk hh
    obtain rfl:k=j:=by omega
    exact h
   obtain⟨m,hm,hml⟩:∃m,(0<j→j=m+1)∧m<l.length:=⟨j - 1,by omega,by omega⟩;obtain⟨d1,_,_⟩:=hcc m hml;have d1:=F.keep d1;have hwr:0<j→IntKind.i64.wrap ((j:Int) - 1)=(m:Int):=fun h=>by have:=hm h;rw[IntKind.wrap_i64];omega
   have hml':(m:Int)<(l.length:Int):=by omega
   have HB:=sH (Cm (x:=l[j]) hm (List.getElem?_eq_getElem hml));clear hcc HJ hm;generalize l[j]=x at*
   generalize l[m]=y at*
   go_upto_region 6 with(fail)
   generalize hW:wz.alloc _=wa;have Fa:Fr none wz wa:=hW▸(Fr.refl none wz).alloc _;have b4:wa.heap[wz.heap.size]?=some (.cells #[.int .i64 x.id,.int .i64 x.bal,.int .i64 x.seq] 59 (0,0)):=by rw[←hW];exact aD _ _
   have HS:Hid (∀W,Fr none wa W→W.cell? ⟨b,off+m*3,none⟩=some (.int .i64 y.id)∧W.cell? ⟨wz.heap.size,0,none⟩=some (.int .i64 x.id)∧W.cell? ⟨wz.heap.size,1,none⟩=some (.int .i64 x.bal)∧W.cell? ⟨wz.heap.size,2,none⟩=some (.int .i64 x.seq)):=fun W FW=>by
    have:=aF b4 FW (by simp);exact⟨(Fa.pure FW).keep d1,by rw[aA this];rfl,by rw[aA this];rfl,by rw[aA this];rfl⟩
   clear hW c1 c2 c3 b4 d1;refine aL (fun W=>Fr none wa W) 35 51 [some 49,some 48,some 47,some 46,some 45,some 44,some 43,some 42,some 41,some 40,some 39,some 38,some 37,some 36,some 35,some 34,some 33,some 32,some 31,some 30,some 29,some 28,some 27,some 26,some 25,some 24,some 23,some 22,some 21,some 20,some 19,some 18,some 17,some 16,some 15] (by kernel_rfl) (by kernel_rfl) (by kernel_rfl) (Nat.le_refl _) ((Fr.refl _ _).drew) ?_;refine FxL.p [] [4] ?_;have HF1:=sH (fun(w:World) (hS:(fun W=>Fr none wa W) w)=>HS.out w hS);refine FxL.q HF1.out [(0,0,15)] [] ?_;refine FxL.call (v:=?_) (f:=?_) (args:=?_) rfl (fun ev w hS E=>?_) (fun w hS=>?_) ?_;rotate_left 3
   ·obtain⟨k1,k2,k3,k4⟩:=HS.out w hS;obtain⟨t16,ec,ef,eg⟩:=E.get [(0,1,16)] [] (by kernel_rfl);clear E;simp only[aG] at t16;go_simp;first|(refine And.intro ?_ ?_<;>with_reducible rfl)|with_reducible rfl
   ·obtain⟨k1,k2,k3,k4⟩:=HS.out w hS;refine(yV x.id w).mono ?_;rintro e w2 ⟨rfl,rfl⟩;refine⟨?_,hS⟩;with_reducible rfl
   refine FxL.p [(0,2,17)] [] ?_;refine FxL.p [(0,3,18)] [] ?_;refine FxL.x 0 [] [3] ?_;refine FxL.x 1 [(0,5,20)] [] ?_;refine FxL.x 2 [(0,6,21)] [] ?_;refine FxL.x 0 [] [0] ?_;refine FxL.x 1 [] [3] ?_;refine FxL.gw (u:=?_) rfl 2 rfl (by simp only[aG]<;>rfl) (fun hg ev w hS E=>?_) ?_;rotate_left
   ·obtain⟨t24,ec,ef,eg⟩:=E.get [(0,9,24)] [] (by kernel_rfl);clear E;simp only[aG] at t24
    (try simp only[hg,bG] at t24)
    have hd:=of_decide_eq_true (iC hg).2;have hw:=hwr (by omega);go_simp;try with_reducible rfl
   refine FxL.xq HF1.out 3 [(2,8,23),(0,10,25)] [] ?_;refine FxL.x 4 [(0,11,26)] [] ?_;refine FxL.xq HF1.out 5 [(0,12,27)] [] ?_;refine FxL.x 6 [] [4] ?_;refine FxL.xq HF1.out 7 [(0,14,29)] [] ?_;refine FxL.x 8 [(2,13,28),(0,15,30)] [] ?_;refine FxL.gpand rfl rfl 12 rfl (by simp only[aG]<;>rfl) 9 7 0 16 (by kernel_rfl) rfl rfl ?_;refine FxL.por rfl rfl 13 4 0 17 (by kernel_rfl) rfl rfl ?_;refine FxL.p [(0,18,33)] [] ?_;refine FxL.x 0 [] [4] ?_;refine FxL.xq HF1.out 1 [(0,20,35)] [] ?_;refine FxL.gwc (u:=?_) (f:=?_) (args:=?_) rfl 2 rfl (by simp only[aG]<;>rfl) (fun hg ev w hS E=>?_) (fun hg w hS=>?_) ?_;rotate_left 3
   ·obtain⟨k1,k2,k3,k4⟩:=HS.out w hS;obtain⟨t36,ec,ef,eg⟩:=E.get [(0,21,36)] [] (by kernel_rfl);clear E;simp only[aG] at t36
    (try simp only[hg,bG] at t36);go_simp;first|(refine And.intro ?_ ?_<;>with_reducible rfl)|with_reducible rfl
   ·obtain⟨k1,k2,k3,k4⟩:=HS.out w hS;refine(cJ x.bal w).mono ?_;rintro e w2 ⟨rfl,rfl⟩;refine⟨?_,hS⟩;with_reducible rfl
   refine FxL.x 3 [(0,22,37)] [] ?_;refine FxL.por rfl rfl 4 19 0 23 (by kernel_rfl) rfl rfl ?_;refine FxL.p [(0,24,39)] [] ?_;refine FxL.x 0 [] [4] ?_;refine FxL.xq HF1.out 1 [(0,26,41)] [] ?_;refine FxL.x 2 [(0,27,42)] [] ?_;refine FxL.por rfl rfl 3 25 0 28 (by kernel_rfl) rfl rfl ?_;refine FxL.p [(0,29,44)] [] ?_;refine FxL.x 0 [] [4] ?_;refine FxL.xq HF1.out 1 [(0,31,46)] [] ?_;refine FxL.x 2 [(0,32,47)] [] ?_;refine FxL.por rfl rfl 3 30 0 33 (by kernel_rfl) rfl rfl ?_;refine FxL.done (fun W hW=>?_);simp only[bF];try simp only[sI]
   try simp only[sK]
   generalize hb:(!inR x.id 1 1000||(decide (0<j)&&decide (x.id≤y.id))|| !aX x.bal||decide (x.seq<0)||decide (1000000<x.seq))=big at HB ⊢;have HX:=HB.out;clear hb HB;have FF:=F.pure (Fa.pure hW);cases big with
   |true=>
    have HX:=sH (HNo.out HX);go_wp2;go_ret;exact⟨aM HX.out.symm,FF⟩
   |false=>
    have HX:=sH (HYes.out HX);go_wp2_with fail;go_roundw
    case rel=>exact⟨_,hlt,by go_num,HX.out,FF⟩
    case measure=>simp[intOf];omega
  have HX:Hid (V=0):=by
   unfold Hid;rw[HVl.out,if_pos (eZ fun k hk=>HJ.out k hk (by omega))]
  go_wp2;go_ret;exact⟨aM HX.out.symm,F⟩
end Go.Proofs.YthaggndnfamhjaaGreatDoor
