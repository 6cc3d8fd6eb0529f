/- Texts, joined. -/
import Derived.Test.YthaggndnfamhjaaGreatDoorProg
import Derived.Test.YthaggndnfamhjaaGreatDoorJK17
import Derived.Test.YthaggndnfamhjaaGreatDoorJK3
import Derived.Test.YthaggndnfamhjaaGreatDoorJK16
import Derived.Test.YthaggndnfamhjaaGreatDoorJA

set_option linter.unusedSimpArgs false
set_option linter.unusedVariables false
set_option maxRecDepth 100000
set_option maxHeartbeats 16000000
namespace Go.Proofs.YthaggndnfamhjaaGreatDoor
open Go.RowKit
def fT(a b:Int):Int:=if a<b then -1 else if b<a then 1 else 0
def c1(x:Int):Int:=IntKind.u64.wrap (bits .and .u64 (x/2) 6148914691236517205+bits .and .u64 x 6148914691236517205)
def c2(x:Int):Int:=IntKind.u64.wrap (bits .and .u64 (x/4) 3689348814741910323+bits .and .u64 x 3689348814741910323)
def c3(x:Int):Int:=bits .and .u64 (IntKind.u64.wrap (x/16+x)) 1085102592571150095
def c4(x:Int):Int:=IntKind.u64.wrap (x+x/256)
def c5(x:Int):Int:=IntKind.u64.wrap (x+x/65536)
def c6(x:Int):Int:=IntKind.u64.wrap (x+x/4294967296)
theorem mM(a:Int)(w:World):Calls Tryz.prog 137 #[.int .i64 a] w fun e w'=>e= .returned (.bool false)∧w=w':=by
 go_enter Tryz.func137,Tryz.ntmps137;go_wp2;go_ret;exact⟨aJ (by simp),rfl⟩
theorem dC(a b:Int)(w:World):Calls Tryz.prog 102 #[.int .i64 a,.int .i64 b] w fun e w'=>e= .returned (.int .i64 (fT a b))∧w=w':=by
 rcases Int.lt_trichotomy a b with h|h|h
 ·have e1:fT a b= -1:=by simp[fT,h]
  have E:=sH e1;clear e1;go_enter Tryz.func102,Tryz.ntmps102;go_wp2_with (go_at_call 137;refine(mM _ _).mono ?_;rintro e w' ⟨rfl,rfl⟩);all_goals(go_ret;exact⟨aM (by rw[E.out]),rfl⟩)
 ·subst h;have e1:fT a a=0:=by simp[fT]
  have E:=sH e1;clear e1;go_enter Tryz.func102,Tryz.ntmps102;go_wp2_with (go_at_call 137;refine(mM _ _).mono ?_;rintro e w' ⟨rfl,rfl⟩);all_goals(go_ret;exact⟨aM (by rw[E.out]),rfl⟩)
 have e1:fT a b=1:=by simp[fT,h];omega
 have h2:¬a<b:=by omega
 have E:=sH e1;clear e1;go_enter Tryz.func102,Tryz.ntmps102;go_wp2_with (go_at_call 137;refine(mM _ _).mono ?_;rintro e w' ⟨rfl,rfl⟩);all_goals(go_ret;exact⟨aM (by rw[E.out]),rfl⟩)
def orL:List Int→Int
 |[]=>0
 |x::r=>if x=0 then orL r else x
theorem pD:∀(l:List Int) (k:Nat),(∀j (hj:j<l.length),j<k→l[j]=0)→orL l=orL (l.drop k)
 |l,0,_=>by simp
 |[],k+1,_=>by simp
 |x::r,k+1,h=>by
  have h0:=h 0 (by simp) (by omega);simp only[List.getElem_cons_zero] at h0;simp only[orL,h0,List.drop_succ_cons];exact pD r k fun j hj hk=>by
   have:=h (j+1) (by simpa using hj) (by omega);simpa only[List.getElem_cons_succ] using this
theorem GR{p:Prop}(h:p:=by
 obtain⟨k,hk,rfl,hno⟩:=hrel;have HN:=sH hno;clear hno;by_cases hlt:k<l.length
 ·obtain⟨b,off,rfl,hb,hbr,hcc⟩:=hc (by omega);have hck:=hcc k hlt;clear hcc hc;by_cases hp:l[k]=0
  ·have HP:=sH hp;go_wp2_with fail;go_round
   case rel=>exact⟨k+1,by omega,by go_num,fun j hj h=>by
    by_cases e:j=k
    ·subst e;exact HP.out
    exact HN.out j hj (by omega)⟩
   case measure=>simp[intOf];omega
  have e1:orL l=l[k]:=by
   rw[pD l k HN.out,List.drop_eq_getElem_cons hlt];simp[orL,hp]
  have E:=sH e1;clear e1;go_wp2;go_ret;exact⟨aM (by rw[E.out]),rfl⟩
 obtain rfl:k=l.length:=by omega
 have e1:orL l=0:=by
  rw[pD l l.length HN.out,List.drop_length];rfl
 have E:=sH e1;clear e1;go_wp2;go_ret;exact⟨aM (by rw[E.out]),rfl⟩):p:=h
theorem sW(l:List Int)(v:Value)(w:World)(r:Option Nat)(h:SlI w r v l):Calls Tryz.prog 101 #[v] w fun e w'=>e= .returned (.int .i64 (orL l))∧w=w':=by
 have hwi:=h.2;obtain⟨A,c,rfl,q1,q2,hc⟩:=h.open_;go_enter Tryz.func101,Tryz.ntmps101;go_wp2_with fail
 go_loop [8] (fun i=>∃k:Nat,k≤l.length∧i= .int .i64 k∧∀j (hj:j<l.length),j<k→l[j]=0) (fun i=>l.length - (intOf i).toNat)
 case atStart=>exact⟨0,Nat.zero_le _,rfl,fun j hj h=>by omega⟩
 case round=>
  exact GR
theorem kN(a b:Int):Wi (fT a b):=by
 unfold fT Wi;split
 ·omega
 split<;>omega
def GV(w:World)(g:Nat)(l:List Int)(e:Ending)(w':World):Prop:=
 ∃x:Int,e= .returned (.int .i64 x)∧x ∈ l∧bP 69 w' g∧Fr (some g) w w'
theorem cO(v:Value)(l:List Int)(g:Nat)(w:World)(hl:SlI w (some g) v l)(h1:1≤l.length)(h2:l.length≤1073741824)(h:bP 69 w g):
  Calls Tryz.prog 24 #[.pointer (some ⟨g,0,none⟩),v] w (GV w g l):=by
 obtain⟨A,c,rfl,q1,q2,hc⟩:=hl.open_;obtain⟨b,off,rfl,hb,hbr,hcc⟩:=hc (by omega);clear hc;go_enter Tryz.func24,Tryz.ntmps24;go_wp2_with fail;refine(cN _ _ _ (by omega) h).mono ?_;rintro e w' ⟨x,rfl,x1,x2,S,F⟩;obtain⟨k,rfl⟩:=Int.eq_ofNat_of_zero_le x1;have hk:k<l.length:=by omega
 have d:=F.keep (hcc k hk) (by simpa using hbr);clear hcc;go_wp2;go_ret;exact⟨_,rfl,List.getElem_mem _,S,F⟩
theorem lP(w:World):Calls Tryz.prog 20 #[] w fun e w'=>e= .returned (.agg #[.string (bL usd.code),.int .i64 usd.iss])∧Fr none w w':=by
 go_enter Tryz.func20,Tryz.ntmps20;go_wp2_with fail;have r0:(w.alloc (.cells #[.string ⟨#[85,83,68]⟩,.int .i64 1] 46)).cell? ⟨w.heap.size,0,none⟩=some (.string ⟨#[85,83,68]⟩):=by rw[dS];rfl
 have r1:(w.alloc (.cells #[.string ⟨#[85,83,68]⟩,.int .i64 1] 46)).cell? ⟨w.heap.size,1,none⟩=some (.int .i64 1):=by rw[dS];rfl
 refine bodyPost_ret (v:=.agg #[.string ⟨#[85,83,68]⟩,.int .i64 1]) (by simp[results,Tryz.results20,go_sem,r0,r1]) rfl ?_;exact⟨rfl,(Fr.refl _ _).alloc _⟩
theorem nY(w:World):Calls Tryz.prog 21 #[] w fun e w'=>e= .returned (.agg #[.string (bL eur.code),.int .i64 eur.iss])∧Fr none w w':=by
 go_enter Tryz.func21,Tryz.ntmps21;go_wp2_with fail;have r0:(w.alloc (.cells #[.string ⟨#[69,85,82]⟩,.int .i64 2] 46)).cell? ⟨w.heap.size,0,none⟩=some (.string ⟨#[69,85,82]⟩):=by rw[dS];rfl
 have r1:(w.alloc (.cells #[.string ⟨#[69,85,82]⟩,.int .i64 2] 46)).cell? ⟨w.heap.size,1,none⟩=some (.int .i64 2):=by rw[dS];rfl
 refine bodyPost_ret (v:=.agg #[.string ⟨#[69,85,82]⟩,.int .i64 2]) (by simp[results,Tryz.results21,go_sem,r0,r1]) rfl ?_;exact⟨rfl,(Fr.refl _ _).alloc _⟩
def qB(w:World)(g:Nat)(e:Ending)(w':World):Prop:=
 ∃a:Ast,e= .returned (.agg #[.string (bL a.code),.int .i64 a.iss])∧(a=nat∨a=usd∨a=eur)∧bP 69 w' g∧Fr (some g) w w'
theorem qB.wi{a:Ast}(h:a=nat∨a=usd∨a=eur):Wi a.iss:=by
 rcases h with rfl|rfl|rfl<;>(constructor<;>decide)
theorem dX(g:Nat)(w:World)(h:bP 69 w g):
  Calls Tryz.prog 26 #[.pointer (some ⟨g,0,none⟩)] w (qB w g):=by
 have hgl:=h.lt;go_enter Tryz.func26,Tryz.ntmps26;go_upto_region 1 with(fail)
 generalize hW:w.alloc _=w1;have F1:Fr none w w1:=hW▸(Fr.refl none w).alloc _;have b2:w1.heap[w.heap.size]?=some (.cells #[.string ⟨#[]⟩,.int .i64 0] 46 (0,0)):=by rw[←hW];exact aD _ _
 clear hW;go_wp2_with fail;refine(lP w1).mono ?_;rintro e w2 ⟨rfl,F2⟩;go_wp2_with fail;refine(nY w2).mono ?_;rintro e w3 ⟨rfl,F3⟩;have F03:=(F1.pure F2).pure F3;have F4:=(Fr.refl none w3).alloc (.cells #[.string ⟨#[]⟩,.int .i64 0,.string (bL usd.code),.int .i64 usd.iss,.string (bL eur.code),.int .i64 eur.iss] 46);have b4:=aD w3 (.cells #[.string ⟨#[]⟩,.int .i64 0,.string (bL usd.code),.int .i64 usd.iss,.string (bL eur.code),.int .i64 eur.iss] 46);have b2:=aF b2 ((F2.pure F3).pure F4) (by simp);have hz3:=F03.size;go_wp2_with fail;refine(cN 3 g _ (by omega) (h.fr (F03.pure F4))).mono ?_;rintro e w5 ⟨x,rfl,x1,x2,S5,F5⟩;have b4:=aF b4 F5 (by simp;omega);have b2:=aF b2 F5 (by simp;omega);have F05:Fr (some g) w w5:=(F03.pure F4).mono.same F5;have r0:w5.cell? ⟨w.heap.size,0,none⟩=some (.string ⟨#[]⟩):=by rw[aA b2];rfl
 have r1:w5.cell? ⟨w.heap.size,1,none⟩=some (.int .i64 0):=by rw[aA b2];rfl
 have f0:=aB b2 0;have f1:=aB b2 1;have l2:=aC b2;have l4:=aC b4;clear F1 F2 F3 F4 h;have hx:x=0∨x=1∨x=2:=by omega
 clear x1 x2;rcases hx with rfl|rfl|rfl
 ·have k0:w5.cell? ⟨w3.heap.size,0,none⟩=some (.string ⟨#[]⟩):=by rw[aA b4];rfl
  have k1:w5.cell? ⟨w3.heap.size,1,none⟩=some (.int .i64 0):=by rw[aA b4];rfl
  go_wp2;refine bodyPost_ret (v:=.agg #[.string (bL nat.code),.int .i64 nat.iss]) (by simp[results,Tryz.results26,go_sem,r0,r1,nat,bL]) rfl ?_;have FZ:=(Fr.set1 w5 ⟨w.heap.size,0,none⟩ (.string ⟨#[]⟩)).same (Fr.set1 _ ⟨w.heap.size,1,none⟩ (.int .i64 0));exact⟨nat,rfl,by simp,S5.frs FZ (by simp;omega),F05.own FZ⟩
 ·skip
  obtain⟨k0,k1⟩:w5.cell? ⟨w3.heap.size,2,none⟩=some (.string (bL (usd).code))∧w5.cell? ⟨w3.heap.size,2+1,none⟩=some (.int .i64 (usd).iss):=⟨by rw[aA b4];rfl,by rw[aA b4];rfl⟩;go_wp2;refine bodyPost_ret (v:=.agg #[.string (bL (usd).code),.int .i64 (usd).iss]) (by simp[results,Tryz.results26,go_sem,r0,r1]) rfl ?_;have FZ:=(Fr.set1 w5 ⟨w.heap.size,0,none⟩ (.string (bL (usd).code))).same (Fr.set1 _ ⟨w.heap.size,1,none⟩ (.int .i64 (usd).iss));exact⟨usd,rfl,by simp,S5.frs FZ (by simp;omega),F05.own FZ⟩
 skip
 obtain⟨k0,k1⟩:w5.cell? ⟨w3.heap.size,4,none⟩=some (.string (bL (eur).code))∧w5.cell? ⟨w3.heap.size,4+1,none⟩=some (.int .i64 (eur).iss):=⟨by rw[aA b4];rfl,by rw[aA b4];rfl⟩;go_wp2;refine bodyPost_ret (v:=.agg #[.string (bL (eur).code),.int .i64 (eur).iss]) (by simp[results,Tryz.results26,go_sem,r0,r1]) rfl ?_;have FZ:=(Fr.set1 w5 ⟨w.heap.size,0,none⟩ (.string (bL (eur).code))).same (Fr.set1 _ ⟨w.heap.size,1,none⟩ (.int .i64 (eur).iss));exact⟨eur,rfl,by simp,S5.frs FZ (by simp;omega),F05.own FZ⟩
theorem jT(n:Int)(w:World):Calls Tryz.prog 45 #[.int .i64 n] w fun e w'=>e= .returned (.bool (aX n))∧Fr none w w':=by
 by_cases h1:0≤n
 ·by_cases h2:n≤1000000000000
  ·skip
   have HV:Hid (aX n=true):=by unfold Hid aX;simp only[decide_eq_true_eq,decide_eq_false_iff_not];omega
   go_enter Tryz.func45,Tryz.ntmps45;go_wp2;go_ret;exact⟨aJ HV.out.symm,Fr.refl _ _⟩
  skip
  have HV:Hid (aX n=false):=by unfold Hid aX;simp only[decide_eq_true_eq,decide_eq_false_iff_not];omega
  go_enter Tryz.func45,Tryz.ntmps45;go_wp2;go_ret;exact⟨aJ HV.out.symm,Fr.refl _ _⟩
 skip
 have HV:Hid (aX n=false):=by unfold Hid aX;simp only[decide_eq_true_eq,decide_eq_false_iff_not];omega
 go_enter Tryz.func45,Tryz.ntmps45;go_wp2;go_ret;exact⟨aJ HV.out.symm,Fr.refl _ _⟩
theorem DQ{p:Prop}(h:p:=by
 have HV:Hid (bX n d=false):=by unfold Hid bX;simp only[decide_eq_true_eq,decide_eq_false_iff_not];omega
 go_enter Tryz.func51,Tryz.ntmps51;go_wp2;go_ret;exact⟨aJ HV.out.symm,Fr.refl _ _⟩):p:=h
theorem uW(n d:Int)(w:World):Calls Tryz.prog 51 #[.int .i64 n,.int .i64 d] w fun e w'=>e= .returned (.bool (bX n d))∧Fr none w w':=by
 by_cases h1:1≤n
 ·by_cases h2:n≤1000000
  ·by_cases h3:1≤d
   ·by_cases h4:d≤1000000
    ·skip
     have HV:Hid (bX n d=true):=by unfold Hid bX;simp only[decide_eq_true_eq,decide_eq_false_iff_not];omega
     go_enter Tryz.func51,Tryz.ntmps51;go_wp2;go_ret;exact⟨aJ HV.out.symm,Fr.refl _ _⟩
    skip
    exact DQ
   skip
   exact DQ
  skip
  exact DQ
 skip
 exact DQ
theorem lQ(a:Ast)(w:World):Calls Tryz.prog 83 #[.agg #[.string (bL a.code),.int .i64 a.iss]] w fun e w'=>e= .returned (.bool (decide (a=nat)))∧Fr none w w':=by
 go_enter Tryz.func83,Tryz.ntmps83;go_wp2_with fail;all_goals
  go_ret;refine⟨aJ ?_,(Fr.refl _ _).alloc _⟩;obtain⟨c,i⟩:=a
  simp_all [nat,bQ]
theorem qY(n d:Int)(w:World):Calls Tryz.prog 46 #[.int .i64 n,.int .i64 d] w fun e w'=>e= .returned (.tuple #[.int .i64 (cI n d).1,.int .i64 (cI n d).2])∧Fr none w w':=by
 obtain⟨P,hP⟩:∃P,P=bX n d:=⟨_,rfl⟩;have hc:=uW n d w;rw[←hP] at hc;cases P with
 |false=>
  have hR:Hid (cI n d=(0,0)):=by unfold Hid cI;rw[←hP];rfl
  clear hP;go_enter Tryz.func46,Tryz.ntmps46;go_wp2_with fail;refine hc.mono ?_;rintro e w1 ⟨rfl,F1⟩;go_wp2_with fail;go_ret2;exact⟨by rw[hR.out];rfl,F1⟩
 |true=>
  have hp:1≤n∧n≤1000000∧1≤d∧d≤1000000:=by unfold bX at hP;exact of_decide_eq_true hP.symm
  obtain⟨n,rfl⟩:=Int.eq_ofNat_of_zero_le (a:=n) (by omega);obtain⟨d,rfl⟩:=Int.eq_ofNat_of_zero_le (a:=d) (by omega);have hR:Hid (cI n d=(((n/Nat.gcd n d:Nat):Int),((d/Nat.gcd n d:Nat):Int))):=by unfold Hid cI;rw[←hP];rfl
  clear hP;have h1:1≤n:=by omega
  have h2:n≤1000000:=by omega
  have h3:1≤d:=by omega
  have h4:d≤1000000:=by omega
  clear hp;obtain⟨G,hG⟩:∃G,G=Nat.gcd n d:=⟨_,rfl⟩;rw[←hG] at hR;have HG:=sH hG;clear hG;go_enter Tryz.func46,Tryz.ntmps46;go_wp2_with fail;refine hc.mono ?_;rintro e w1 ⟨rfl,F1⟩;clear hc;go_wp2_with fail;go_loopw [6,7] (fun s6 s7 wr=>∃a b:Nat,s6= .int .i64 (a:Int)∧s7= .int .i64 (b:Int)∧Hid (Nat.gcd a b=G)∧1≤a∧a≤1000000∧b≤1000000∧Fr none w wr) (fun _ s7 _=>(intOf s7).toNat)
  case atStart=>exact⟨n,d,rfl,rfl,HG.out.symm,h1,h2,h4,F1⟩
  case round=>
   obtain⟨a,b,rfl,rfl,HA,ha,ha2,hb2,F⟩:=hrel;by_cases hb:b=0
   ·subst hb;have ea:a=G:=by have:=HA.out;simpa using this
    subst ea;have q1:Hid (wrap64 ((n:Int)/(a:Int))=((n/a:Nat):Int)):=by
     unfold Hid;have:=Nat.div_le_self n a;rw[←Int.natCast_ediv];generalize n/a=x at this ⊢;unfold wrap64;omega
    have q2:Hid (wrap64 ((d:Int)/(a:Int))=((d/a:Nat):Int)):=by
     unfold Hid;have:=Nat.div_le_self d a;rw[←Int.natCast_ediv];generalize d/a=x at this ⊢;unfold wrap64;omega
    go_wp2_with fail;go_quiet (fail);go_wp2_with fail;go_ret2;exact⟨by rw[hR.out,←q1.out,←q2.out];rfl,F.drewN _⟩
   have q1:(a:Int).tmod (b:Int)=((a%b:Nat):Int):=rfl;have q2:a%b<b:=Nat.mod_lt _ (by omega);have HB:Hid (Nat.gcd b (a%b)=G):=by unfold Hid;rw[←HA.out,Nat.gcd_comm b,←Nat.gcd_rec,Nat.gcd_comm]
   clear HA;go_wp2_with fail;go_quiet (fail);go_wp2_with fail;go_roundw
   case rel=>exact⟨b,a%b,rfl,by go_num,HB,by omega,hb2,by omega,F.drewN _⟩
   case measure=>simp[intOf];omega
theorem uX(a:Ast)(h:a≠nat):aV a=(decide (1≤a.code.length∧a.code.length≤4∧1≤a.iss∧a.iss≤1000)&&a.code.all fun c=>decide (65≤c.toNat∧c.toNat≤90)):=by
 unfold aV;rw[decide_eq_false h,Bool.false_or]
theorem DR{p:Prop}(h:p:=by
 have:=HSz.out;have HX:Hid (V=false):=by
  unfold Hid;rw[HV.out,uX _ hn,Bool.and_eq_false_iff];left;rw[decide_eq_false_iff_not];simp only;omega
 go_wp2;go_ret;exact⟨aJ HX.out.symm,F1.pure F2⟩):p:=h
theorem iR(a:Ast)(w:World):Calls Tryz.prog 47 #[.agg #[.string (bL a.code),.int .i64 a.iss]] w fun e w'=>e= .returned (.bool (aV a))∧Fr none w w':=by
 obtain⟨V,hV⟩:∃V,V=aV a:=⟨_,rfl⟩;rw[←hV];have HV:=sH hV;clear hV;obtain⟨c,i⟩:=a;obtain⟨S,hS⟩:∃S,S=bL c:=⟨_,rfl⟩;have hsz:S.size=c.length:=by rw[hS,dB]
 have hget:∀j (h1:j<S.size) (h2:j<c.length),S[j]=c[j]:=by subst hS;intro j h1 h2;rfl
 have HGt:=sH hget;have HSz:=sH hsz;go_enter Tryz.func47,Tryz.ntmps47;have HS:=sH hS;simp only[←HS.out];clear hS hget hsz;go_upto_region 1 with(fail)
 generalize hW:w.alloc _=w1;have F1:Fr none w w1:=hW▸(Fr.refl none w).alloc _;have b1:CL2 w1 w.heap.size (.string S) (.int .i64 i) 46:=by rw[←hW];exact aD _ _
 clear hW;have hc:Calls Tryz.prog 83 #[.agg #[.string S,.int .i64 i]] w1 fun e w'=>e= .returned (.bool (decide ((⟨c,i⟩:Ast)=nat)))∧Fr none w1 w':=by rw[HS.out];exact lQ ⟨c,i⟩ w1
 have HCl:=sH hc;clear hc;obtain⟨r1,r2⟩:=b1.cell;have l1:=aC b1;go_wp2_with fail;refine HCl.out.mono ?_;rintro e w2 ⟨rfl,F2⟩;have b2:=b1.fr F2;clear r1 r2 l1 HCl;obtain⟨r1,r2⟩:=b2.cell;have l1:=aC b2;by_cases hn:(⟨c,i⟩:Ast)=nat
 ·have HX:Hid (V=true):=by unfold Hid;rw[HV.out];unfold aV;rw[decide_eq_true hn];rfl
  rw[decide_eq_true hn];clear hn;go_wp2;go_ret;exact⟨aJ HX.out.symm,F1.pure F2⟩
 rw[decide_eq_false hn];by_cases h1:1≤S.size
 ·by_cases h2:S.size≤4
  ·by_cases h3:1≤i
   ·by_cases h4:i≤1000
    ·have HN:=sH hn;clear hn;have hvv:Hid (V=c.all fun c=>decide (65≤c.toNat∧c.toNat≤90)):=by
      unfold Hid;rw[HV.out,uX _ HN.out];simp only;rw[decide_eq_true (by have:=HSz.out;omega),Bool.true_and]
     go_wp2_with fail
     go_loop [3] (fun s3=>∃j:Nat,j≤S.size∧s3= .int .i64 (j:Int)∧Hid (∀k (hk:k<c.length),k<j→decide (65≤(c[k]).toNat∧(c[k]).toNat≤90)=true)) (fun s3=>S.size - (intOf s3).toNat)
     case atStart=>exact⟨0,by omega,rfl,fun k _ hk=>by omega⟩
     case round=>
      obtain⟨j,hj,rfl,HJ⟩:=hrel;by_cases hlt:j<S.size
      ·have hjc:j<c.length:=by have:=HSz.out;omega
       have HGj:Hid (S[j]=c[j]):=HGt.out j hlt hjc;by_cases g1:65≤(S[j]).toNat
       ·by_cases g2:(S[j]).toNat≤90
        ·have HK:Hid (∀k (hk:k<c.length),k<j+1→decide (65≤(c[k]).toNat∧(c[k]).toNat≤90)=true):=fun k hk hkj=>by
          rcases Nat.lt_or_ge k j with hh|hh
          ·exact HJ.out k hk hh
          obtain rfl:k=j:=by omega
          rw[←HGj.out];exact decide_eq_true ⟨g1,g2⟩
         clear HJ HGj;go_wp2_with fail;go_round
         case rel=>exact⟨j+1,by omega,by go_num,HK⟩
         case measure=>simp[intOf];omega
        have HX:Hid (V=false):=by
         unfold Hid;rw[hvv.out,List.all_eq_false];refine⟨c[j],List.getElem_mem hjc,?_⟩;rw[←HGj.out,decide_eq_true_iff];omega
        clear HJ HGj;go_wp2;go_ret;exact⟨aJ HX.out.symm,F1.pure F2⟩
       have HX:Hid (V=false):=by
        unfold Hid;rw[hvv.out,List.all_eq_false];refine⟨c[j],List.getElem_mem hjc,?_⟩;rw[←HGj.out,decide_eq_true_iff];omega
       clear HJ HGj;go_wp2;go_ret;exact⟨aJ HX.out.symm,F1.pure F2⟩
      have HX:Hid (V=true):=by
       unfold Hid;rw[hvv.out,List.all_eq_true];intro x hx;obtain⟨k,hk,rfl⟩:=List.getElem_of_mem hx;exact HJ.out k hk (by have:=HSz.out;omega)
      go_wp2;go_ret;exact⟨aJ HX.out.symm,F1.pure F2⟩
    exact DR
   exact DR
  exact DR
 exact DR
theorem zU(a b:Ast)(w:World):Calls Tryz.prog 122 #[.agg #[.string (bL a.code),.int .i64 a.iss],.agg #[.string (bL b.code),.int .i64 b.iss]] w fun e w'=>e= .returned (.bool (eK a b))∧Fr none w w':=by
 obtain⟨V,hV⟩:∃V,V=eK a b:=⟨_,rfl⟩;rw[←hV];have HV:=sH hV;clear hV;obtain⟨c,i⟩:=a;obtain⟨d,k⟩:=b;have e1:(bL c).toList=c:=bQ c;have e2:(bL d).toList=d:=bQ d;cases hb:Op.bytesLess c d with
 |true=>
  have HX:Hid (V=true):=by unfold Hid;rw[HV.out];unfold eK ltL;simp only;rw[hb];rfl
  go_enter Tryz.func122,Tryz.ntmps122;go_wp2;go_ret;exact⟨aJ HX.out.symm,((Fr.refl _ _).alloc _).alloc _⟩
 |false=>
  by_cases hcd:c=d
  ·subst hcd;have h2:(c == c)=true:=by simp
   by_cases hik:i<k
   ·have HX:Hid (V=true):=by unfold Hid;rw[HV.out];unfold eK ltL;simp only;rw[hb,decide_eq_true hik];simp
    go_enter Tryz.func122,Tryz.ntmps122;go_wp2;go_ret;exact⟨aJ HX.out.symm,((Fr.refl _ _).alloc _).alloc _⟩
   have HX:Hid (V=false):=by unfold Hid;rw[HV.out];unfold eK ltL;simp only;rw[hb,decide_eq_false hik];simp
   go_enter Tryz.func122,Tryz.ntmps122;go_wp2;go_ret;exact⟨aJ HX.out.symm,((Fr.refl _ _).alloc _).alloc _⟩
  have h2:(c == d)=false:=by rw[beq_eq_false_iff_ne];exact hcd
  have HX:Hid (V=false):=by unfold Hid;rw[HV.out];unfold eK ltL;simp only;rw[hb,decide_eq_false hcd];rfl
  clear hcd;go_enter Tryz.func122,Tryz.ntmps122;go_wp2;go_ret;exact⟨aJ HX.out.symm,((Fr.refl _ _).alloc _).alloc _⟩
theorem iC{e w0 d want:Bool}(h:gwV (.bool e) w0 (.bool d)= .bool want):e=w0∧d=want:=by
 cases e<;>cases w0<;>first|exact⟨rfl,Value.bool.inj h⟩|cases h
theorem DS{l:List aQ}{j m:Nat}{x y:aQ}(hm:0<j→j=m+1)(hy:l[m]?=some y):iX (bK l j) x= !(decide (x.id<1)||decide (1000<x.id)||(decide (0<j)&&decide (x.id≤y.id))|| !aX x.bal||decide (x.seq<0)||decide (1000000<x.seq)):=by
 unfold iX nP bK;generalize aX x.bal=v;rw[Bool.eq_iff_iff];by_cases h0:j=0
 ·subst h0;cases v<;>simp;omega
 have:=hm (by omega);subst this;cases v<;>simp[hy];omega
theorem mN(l:List aQ)(v:Value)(w:World)(h:SlR aP w none v l):Calls Tryz.prog 34 #[v] w fun e w'=>e= .returned (.int .i64 (cC l))∧Fr none w w':=by
 obtain⟨V,hV⟩:∃V,V=cC l:=⟨_,rfl⟩;rw[←hV];have HV:=sH hV;clear hV;obtain⟨A,c,rfl,q1,q2,hc⟩:=aN h;have HC:=sH hc;clear hc;by_cases hl:20<l.length
 ·have hd:decide ((20:Int)<(l.length:Int))=true:=decide_eq_true (by omega);have HX:Hid (V=3):=by unfold Hid;rw[HV.out];unfold cC;rw[if_pos hl]
  clear hl;go_enter Tryz.func34,Tryz.ntmps34;go_wp2;go_ret;exact⟨aM HX.out.symm,Fr.refl _ _⟩
 have hd:decide ((20:Int)<(l.length:Int))=false:=decide_eq_false (by omega);have HVl:Hid (V=if bV iX none l=true then 0 else 74):=by unfold Hid;rw[HV.out];unfold cC;rw[if_neg hl]
 clear hl HV;go_enter Tryz.func34,Tryz.ntmps34;go_wp2_with fail;go_loopw [10] (fun s10 wr=>∃j:Nat,j≤l.length∧s10= .int .i64 (j:Int)∧Hid (∀k (hk:k<l.length),k<j→iX (bK l k) l[k]=true)∧Fr none w wr) (fun s10 _=>l.length - (intOf s10).toNat)
 case atStart=>exact⟨0,by omega,rfl,fun k _ hk=>by omega,Fr.refl _ _⟩
 case round=>
  obtain⟨j,hj,rfl,HJ,F⟩:=hrel;obtain⟨wz,hwz⟩:∃wz:World,wz=wr:=⟨_,rfl⟩;subst hwz;by_cases hlt:j<l.length
  ·obtain⟨b,off,rfl,hb,_,hcc⟩:=HC.out (by omega);obtain⟨c1,c2,c3⟩:=hcc j hlt;have c1:=F.keep c1;have c2:=F.keep c2;have c3:=F.keep c3;have HNo:Hid (iX (bK l j) l[j]=false→V=74):=fun h=>by rw[HVl.out,if_neg (by rw[gC hlt h];simp)]
   have HYes:Hid (iX (bK l j) l[j]=true→∀k (hk:k<l.length),k<j+1→iX (bK l k) l[k]=true):=fun h k hk hkj=>by
    rcases Nat.lt_or_ge k j with hh|hh
    ·exact HJ.out k hk hh
    obtain rfl:k=j:=by omega
    exact h
   obtain⟨m,hm,hml⟩:∃m,(0<j→j=m+1)∧m<l.length:=⟨j - 1,by omega,by omega⟩;obtain⟨d1,_,_⟩:=hcc m hml;have d1:=F.keep d1;have hwr:0<j→IntKind.i64.wrap ((j:Int) - 1)=(m:Int):=fun h=>by have:=hm h;rw[IntKind.wrap_i64];omega
   have hml':(m:Int)<(l.length:Int):=by omega
   have HB:=sH (DS (x:=l[j]) hm (List.getElem?_eq_getElem hml));clear hcc HJ hm;generalize l[j]=x at*
   generalize l[m]=y at*
   go_upto_region 6 with(fail)
   generalize hW:wz.alloc _=wa;have Fa:Fr none wz wa:=hW▸(Fr.refl none wz).alloc _;have b4:wa.heap[wz.heap.size]?=some (.cells #[.int .i64 x.id,.int .i64 x.bal,.int .i64 x.seq] 59 (0,0)):=by rw[←hW];exact aD _ _
   have HS:Hid (∀W,Fr none wa W→W.cell? ⟨b,off+m*3,none⟩=some (.int .i64 y.id)∧W.cell? ⟨wz.heap.size,0,none⟩=some (.int .i64 x.id)∧W.cell? ⟨wz.heap.size,1,none⟩=some (.int .i64 x.bal)∧W.cell? ⟨wz.heap.size,2,none⟩=some (.int .i64 x.seq)):=fun W FW=>by
    have:=aF b4 FW (by simp);exact⟨(Fa.pure FW).keep d1,by rw[aA this];rfl,by rw[aA this];rfl,by rw[aA this];rfl⟩
   clear hW c1 c2 c3 b4 d1;refine aL (fun W=>Fr none wa W) 39 55 [some 53,some 52,some 51,some 50,some 49,some 48,some 47,some 46,some 45,some 44,some 43,some 42,some 41,some 40,some 39,some 38,some 37,some 36,some 35,some 34,some 33,some 32,some 31,some 30,some 29,some 28,some 27,some 26,some 25,some 24,some 23,some 22,some 21,some 20,some 19,some 18,some 17,some 16,some 15] (by kernel_rfl) (by kernel_rfl) (by kernel_rfl) (Nat.le_refl _) ((Fr.refl _ _).drew) ?_;refine FxL.p [] [4] ?_;have HF1:=sH (fun(w:World) (hS:(fun W=>Fr none wa W) w)=>HS.out w hS);refine FxL.q HF1.out [(0,0,15)] [] ?_;refine FxL.p [(0,1,16)] [] ?_;refine FxL.p [(0,2,17)] [] ?_;refine FxL.x 0 [] [4] ?_;refine FxL.xq HF1.out 1 [(0,4,19)] [] ?_;refine FxL.x 2 [(0,5,20)] [] ?_;refine FxL.por rfl rfl 3 3 0 6 (by kernel_rfl) rfl rfl ?_;refine FxL.p [(0,7,22)] [] ?_;refine FxL.x 0 [] [3] ?_;refine FxL.x 1 [(0,9,24)] [] ?_;refine FxL.x 2 [(0,10,25)] [] ?_;refine FxL.x 0 [] [0] ?_;refine FxL.x 1 [] [3] ?_;refine FxL.gw (u:=?_) rfl 2 rfl (by simp only[aG]<;>rfl) (fun hg ev w hS E=>?_) ?_;rotate_left
   ·obtain⟨t28,ec,ef,eg⟩:=E.get [(0,13,28)] [] (by kernel_rfl);clear E;simp only[aG] at t28
    (try simp only[hg,bG] at t28)
    have hd:=of_decide_eq_true (iC hg).2;have hw:=hwr (by omega);go_simp;try with_reducible rfl
   refine FxL.xq HF1.out 3 [(2,12,27),(0,14,29)] [] ?_;refine FxL.x 4 [(0,15,30)] [] ?_;refine FxL.xq HF1.out 5 [(0,16,31)] [] ?_;refine FxL.x 6 [] [4] ?_;refine FxL.xq HF1.out 7 [(0,18,33)] [] ?_;refine FxL.x 8 [(2,17,32),(0,19,34)] [] ?_;refine FxL.gpand rfl rfl 12 rfl (by simp only[aG]<;>rfl) 9 11 0 20 (by kernel_rfl) rfl rfl ?_;refine FxL.por rfl rfl 13 8 0 21 (by kernel_rfl) rfl rfl ?_;refine FxL.p [(0,22,37)] [] ?_;refine FxL.x 0 [] [4] ?_;refine FxL.xq HF1.out 1 [(0,24,39)] [] ?_;refine FxL.gwc (u:=?_) (f:=?_) (args:=?_) rfl 2 rfl (by simp only[aG]<;>rfl) (fun hg ev w hS E=>?_) (fun hg w hS=>?_) ?_;rotate_left 3
   ·obtain⟨k1,k2,k3,k4⟩:=HS.out w hS;obtain⟨t40,ec,ef,eg⟩:=E.get [(0,25,40)] [] (by kernel_rfl);clear E;simp only[aG] at t40
    (try simp only[hg,bG] at t40);go_simp;first|(refine And.intro ?_ ?_<;>with_reducible rfl)|with_reducible rfl
   ·obtain⟨k1,k2,k3,k4⟩:=HS.out w hS;refine(jT x.bal w).mono ?_;rintro e w2 ⟨rfl,F2⟩;refine⟨?_,hS.pure F2⟩;with_reducible rfl
   refine FxL.x 3 [(0,26,41)] [] ?_;refine FxL.por rfl rfl 4 23 0 27 (by kernel_rfl) rfl rfl ?_;refine FxL.p [(0,28,43)] [] ?_;refine FxL.x 0 [] [4] ?_;refine FxL.xq HF1.out 1 [(0,30,45)] [] ?_;refine FxL.x 2 [(0,31,46)] [] ?_;refine FxL.por rfl rfl 3 29 0 32 (by kernel_rfl) rfl rfl ?_;refine FxL.p [(0,33,48)] [] ?_;refine FxL.x 0 [] [4] ?_;refine FxL.xq HF1.out 1 [(0,35,50)] [] ?_;refine FxL.x 2 [(0,36,51)] [] ?_;refine FxL.por rfl rfl 3 34 0 37 (by kernel_rfl) rfl rfl ?_;refine FxL.done (fun W hW=>?_);simp only[bF];try simp only[sI]
   try simp only[sK]
   generalize hb:(decide (x.id<1)||decide (1000<x.id)||(decide (0<j)&&decide (x.id≤y.id))|| !aX x.bal||decide (x.seq<0)||decide (1000000<x.seq))=big at HB ⊢;have HX:=HB.out;clear hb HB;have FF:=F.pure (Fa.pure hW);cases big with
   |true=>
    have HX:=sH (HNo.out HX);go_wp2;go_ret;exact⟨aM HX.out.symm,FF⟩
   |false=>
    have HX:=sH (HYes.out HX);go_wp2_with fail;go_roundw
    case rel=>exact⟨_,hlt,by go_num,HX.out,FF⟩
    case measure=>simp[intOf];omega
  have HX:Hid (V=0):=by
   unfold Hid;rw[HVl.out,if_pos (eZ fun k hk=>HJ.out k hk (by omega))]
  go_wp2;go_ret;exact⟨aM HX.out.symm,F⟩
theorem zV(l:List aQ)(v:Value)(id:Int)(w:World)(h:SlR aP w none v l):Calls Tryz.prog 35 #[v,.int .i64 id] w fun e w'=>e= .returned (.int .i64 (dG (isA id) l))∧Fr none w w':=by
 obtain⟨V,hV⟩:∃V,V=dG (isA id) l:=⟨_,rfl⟩;rw[←hV];have HV:=sH hV;clear hV;obtain⟨A,c,rfl,q1,q2,hc⟩:=aN h;have HC:=sH hc;clear hc;go_enter Tryz.func35,Tryz.ntmps35;go_wp2_with fail;go_loopw [9] (fun s9 wr=>∃j:Nat,j≤l.length∧s9= .int .i64 (j:Int)∧Hid (∀k (hk:k<l.length),k<j→isA id l[k]=false)∧Fr none w wr) (fun s9 _=>l.length - (intOf s9).toNat)
 case atStart=>exact⟨0,by omega,rfl,fun k _ hk=>by omega,Fr.refl _ _⟩
 case round=>
  obtain⟨j,hj,rfl,HJ,F⟩:=hrel;obtain⟨wz,hwz⟩:∃wz:World,wz=wr:=⟨_,rfl⟩;subst hwz;by_cases hlt:j<l.length
  ·obtain⟨b,off,rfl,hb,_,hcc⟩:=HC.out (by omega);obtain⟨c1,c2,c3⟩:=hcc j hlt;have c1:=F.keep c1;have c2:=F.keep c2;have c3:=F.keep c3;have HNo:Hid (isA id l[j]=false→∀k (hk:k<l.length),k<j+1→isA id l[k]=false):=fun h k hk hkj=>by
    rcases Nat.lt_or_ge k j with hh|hh
    ·exact HJ.out k hk hh
    obtain rfl:k=j:=by omega
    exact h
   have HYes:Hid (isA id l[j]=true→V=(j:Int)):=fun h=>by rw[HV.out];exact nV hlt h HJ.out
   clear hcc HJ;generalize l[j]=x at*
   go_upto_region 4 with(fail)
   generalize hW:wz.alloc _=wa;have Fa:Fr none wz wa:=hW▸(Fr.refl none wz).alloc _;have b4:wa.heap[wz.heap.size]?=some (.cells #[.int .i64 x.id,.int .i64 x.bal,.int .i64 x.seq] 59 (0,0)):=by rw[←hW];exact aD _ _
   have r1:wa.cell? ⟨wz.heap.size,0,none⟩=some (.int .i64 x.id):=by rw[aA b4];rfl
   have l4:=aC b4;clear hW c1 c2 c3 b4;by_cases he:x.id=id
   ·have HX:Hid (V=(j:Int)):=HYes.out (decide_eq_true he);have e1:(x.id == id)=true:=by rw[beq_iff_eq];exact he
    clear he;go_wp2;go_ret;exact⟨aM HX.out.symm,F.pure Fa⟩
   have HX:=sH (HNo.out (decide_eq_false he));have e1:(x.id == id)=false:=by rw[beq_eq_false_iff_ne];exact he
   clear he;go_wp2_with fail;go_roundw
   case rel=>exact⟨j+1,hlt,by go_num,HX,F.pure Fa⟩
   case measure=>simp[intOf];omega
  have HX:Hid (V= -1):=by
   unfold Hid;rw[HV.out,eY fun k hk=>HJ.out k hk (by omega)]
  go_wp2;go_ret;exact⟨aM HX.out.symm,F⟩
def FV:aQ:=⟨0,0,0⟩
def dR(l:List aQ)(id:Int):aQ × Bool:=match aK l id with
 |some a=>(a,true)
 |none=>(FV,false)
def xB(a:aQ):Value:=.agg #[.int .i64 a.id,.int .i64 a.bal,.int .i64 a.seq]
theorem fM(l:List aQ)(v:Value)(id:Int)(w:World)(h:SlR aP w none v l):Calls Tryz.prog 17 #[v,.int .i64 id] w fun e w'=>e= .returned (.tuple #[xB (dR l id).1,.bool (dR l id).2])∧Fr none w w':=by
 obtain⟨A,c,rfl,q1,q2,hc⟩:=aN h;have HC:=sH hc;clear hc;go_enter Tryz.func17,Tryz.ntmps17;go_upto_region 1 with(fail)
 generalize hW:w.alloc _=w1;have F1:Fr none w w1:=hW▸(Fr.refl none w).alloc _;have b4:w1.heap[w.heap.size]?=some (.cells #[.int .i64 0,.int .i64 0,.int .i64 0] 59 (0,0)):=by rw[←hW];exact aD _ _
 clear hW;go_wp2_with fail;refine(zV l _ id w1 (h.fr F1)).mono ?_;rintro e w2 ⟨rfl,F2⟩;have b4:=aF b4 F2 (by simp);have F02:=F1.pure F2;have l4:=aC b4;have r0:w2.cell? ⟨w.heap.size,0,none⟩=some (.int .i64 0):=by rw[aA b4];rfl
 have r1:w2.cell? ⟨w.heap.size,1,none⟩=some (.int .i64 0):=by rw[aA b4];rfl
 have r2:w2.cell? ⟨w.heap.size,2,none⟩=some (.int .i64 0):=by rw[aA b4];rfl
 have f0:=aB b4 0;have f1:=aB b4 1;have f2:=aB b4 2;rcases fI (isA id) l with⟨hi,hf⟩|⟨k,hk,hi,hf,_⟩
 ·have HR:Hid (dR l id=(FV,false)):=by unfold Hid dR aK;rw[hf]
  rw[hi];clear hi hf;go_wp2;refine bodyPost_ret (v:=.tuple #[.agg #[.int .i64 0,.int .i64 0,.int .i64 0],.bool false]) (by simp[results,Tryz.results17,go_sem,r0,r1,r2]) rfl ?_;have FF:=((Fr.set1 w2 ⟨w.heap.size,0,none⟩ (.int .i64 0)).same (Fr.set1 _ ⟨w.heap.size,1,none⟩ (.int .i64 0))).same (Fr.set1 _ ⟨w.heap.size,2,none⟩ (.int .i64 0));exact⟨by rw[HR.out];rfl,F02.own FF⟩
 obtain⟨b,off,rfl,hb,_,hcc⟩:=HC.out (by omega);obtain⟨c1,c2,c3⟩:=hcc k hk;have c1:=F02.keep c1;have c2:=F02.keep c2;have c3:=F02.keep c3;have HR:Hid (dR l id=(l[k],true)):=by unfold Hid dR aK;rw[hf]
 rw[hi];clear hi hf hcc;generalize l[k]=x at*
 go_wp2;refine bodyPost_ret (v:=.tuple #[.agg #[.int .i64 x.id,.int .i64 x.bal,.int .i64 x.seq],.bool true]) (by simp[results,Tryz.results17,go_sem,r0,r1,r2]) rfl ?_;have FF:=((Fr.set1 w2 ⟨w.heap.size,0,none⟩ (.int .i64 x.id)).same (Fr.set1 _ ⟨w.heap.size,1,none⟩ (.int .i64 x.bal))).same (Fr.set1 _ ⟨w.heap.size,2,none⟩ (.int .i64 x.seq));exact⟨by rw[HR.out];rfl,F02.own FF⟩
theorem Bw(x:Ln)(acc:Int)(a:Ast)(w:World):Calls Tryz.prog 84 #[.agg #[.int .i64 x.acc,.string (bL x.ast.code),.int .i64 x.ast.iss,.int .i64 x.bal,.int .i64 x.lim],.int .i64 acc,.agg #[.string (bL a.code),.int .i64 a.iss]] w fun e w'=>e= .returned (.bool (eP x acc a))∧Fr none w w':=by
 obtain⟨V,hV⟩:∃V,V=eP x acc a:=⟨_,rfl⟩;rw[←hV];have HV:=sH hV;clear hV;by_cases h1:x.acc<acc
 ·have HX:Hid (V=true):=by unfold Hid;rw[HV.out];unfold eP;rw[decide_eq_true h1];rfl
  have e1:decide (x.acc<acc)=true:=decide_eq_true h1;go_enter Tryz.func84,Tryz.ntmps84;go_wp2;go_ret;exact⟨aJ HX.out.symm,((Fr.refl _ _).alloc _).alloc _⟩
 have e1:decide (x.acc<acc)=false:=decide_eq_false h1;by_cases h2:x.acc=acc
 ·have e2:(x.acc == acc)=true:=by rw[beq_iff_eq];exact h2
  have HX:Hid (V=eK x.ast a):=by unfold Hid;rw[HV.out];unfold eP;rw[decide_eq_false h1,decide_eq_true h2];rfl
  clear h1 h2;go_enter Tryz.func84,Tryz.ntmps84;go_wp2_with fail;refine(zU x.ast a _).mono ?_;rintro e w2 ⟨rfl,F2⟩;go_wp2;go_ret;exact⟨aJ HX.out.symm,(((Fr.refl _ _).alloc _).alloc _).pure F2⟩
 have e2:(x.acc == acc)=false:=by rw[beq_eq_false_iff_ne];exact h2
 have HX:Hid (V=false):=by unfold Hid;rw[HV.out];unfold eP;rw[decide_eq_false h1,decide_eq_false h2];rfl
 clear h1 h2;go_enter Tryz.func84,Tryz.ntmps84;go_wp2;go_ret;exact⟨aJ HX.out.symm,((Fr.refl _ _).alloc _).alloc _⟩
theorem zW(l:List Ln)(v:Value)(acc:Int)(a:Ast)(w:World)(h:SlR lnR w none v l):Calls Tryz.prog 124 #[v,.int .i64 acc,.agg #[.string (bL a.code),.int .i64 a.iss]] w fun e w'=>e= .returned (.int .i64 (dG (isL acc a) l))∧Fr none w w':=by
 obtain⟨V,hV⟩:∃V,V=dG (isL acc a) l:=⟨_,rfl⟩;rw[←hV];have HV:=sH hV;clear hV;obtain⟨A,c,rfl,q1,q2,hc⟩:=aU h;have HC:=sH hc;clear hc;go_enter Tryz.func124,Tryz.ntmps124;go_upto_region 1 with(fail)
 generalize hW:w.alloc _=w0;have F0:Fr none w w0:=hW▸(Fr.refl none w).alloc _;have b5:CL2 w0 w.heap.size (.string (bL a.code)) (.int .i64 a.iss) 46:=by rw[←hW];exact aD _ _
 clear hW;go_wp2_with fail;go_loopw [11] (fun s11 wr=>∃j:Nat,j≤l.length∧s11= .int .i64 (j:Int)∧Hid (∀k (hk:k<l.length),k<j→isL acc a l[k]=false)∧Fr none w0 wr) (fun s11 _=>l.length - (intOf s11).toNat)
 case atStart=>exact⟨0,by omega,rfl,fun k _ hk=>by omega,Fr.refl _ _⟩
 case round=>
  obtain⟨j,hj,rfl,HJ,F⟩:=hrel;obtain⟨wz,hwz⟩:∃wz:World,wz=wr:=⟨_,rfl⟩;subst hwz;have F0z:=F0.pure F;by_cases hlt:j<l.length
  ·obtain⟨b,off,rfl,hb,_,hcc⟩:=HC.out (by omega);obtain⟨c1,c2,c3,c4,c5⟩:=hcc j hlt;have c1:=F0z.keep c1;have c2:=F0z.keep c2;have c3:=F0z.keep c3;have c4:=F0z.keep c4;have c5:=F0z.keep c5;have HNo:Hid (isL acc a l[j]=false→∀k (hk:k<l.length),k<j+1→isL acc a l[k]=false):=fun h k hk hkj=>by
    rcases Nat.lt_or_ge k j with hh|hh
    ·exact HJ.out k hk hh
    obtain rfl:k=j:=by omega
    exact h
   have HYes:Hid (isL acc a l[j]=true→V=(j:Int)):=fun h=>by rw[HV.out];exact nV hlt h HJ.out
   clear hcc HJ;generalize l[j]=x at*
   go_upto_region 4 with(fail)
   generalize hW:wz.alloc _=wa;have Fa:Fr none wz wa:=hW▸(Fr.refl none wz).alloc _;have b4:wa.heap[wz.heap.size]?=some (.cells #[.int .i64 x.acc,.string (bL x.ast.code),.int .i64 x.ast.iss,.int .i64 x.bal,.int .i64 x.lim] 74 (0,0)):=by rw[←hW];exact aD _ _
   have r1:wa.cell? ⟨wz.heap.size,0,none⟩=some (.int .i64 x.acc):=by rw[aA b4];rfl
   have r2:wa.cell? ⟨wz.heap.size,1,none⟩=some (.string (bL x.ast.code)):=by rw[aA b4];rfl
   have r3:wa.cell? ⟨wz.heap.size,2,none⟩=some (.int .i64 x.ast.iss):=by rw[aA b4];rfl
   have b5:=b5.fr (F.pure Fa);obtain⟨r4,r5⟩:=b5.cell;have l4:=aC b4;have l5:=aC b5;have t1:=bQ x.ast.code;have t2:=bQ a.code;clear hW c1 c2 c3 c4 c5 b4 b5;have FF:=F.pure Fa;have F0f:=F0z.pure Fa;by_cases h1:x.acc=acc
   ·have e1:(x.acc == acc)=true:=by rw[beq_iff_eq];exact h1
    by_cases h2:x.ast.code=a.code
    ·by_cases h3:x.ast.iss=a.iss
     ·have HX:Hid (V=(j:Int)):=HYes.out (decide_eq_true ⟨h1,by cases hx:x.ast;cases ha:a;rw[hx] at h2 h3;rw[ha] at h2 h3;simp only at h2 h3;rw[h2,h3]⟩);clear h1;go_wp2;go_ret;exact⟨aM HX.out.symm,F0f⟩
     have HX:=sH (HNo.out (decide_eq_false (fun e=>h3 (by rw[e.2]))));clear h1;go_wp2_with fail;go_roundw
     case rel=>exact⟨j+1,hlt,by go_num,HX,FF⟩
     case measure=>simp[intOf];omega
    have HX:=sH (HNo.out (decide_eq_false (fun e=>h2 (by rw[e.2]))));clear h1;go_wp2_with fail;go_roundw
    case rel=>exact⟨j+1,hlt,by go_num,HX,FF⟩
    case measure=>simp[intOf];omega
   have HX:=sH (HNo.out (decide_eq_false (fun e=>h1 e.1)));have e1:(x.acc == acc)=false:=by rw[beq_eq_false_iff_ne];exact h1
   clear h1;go_wp2_with fail;go_roundw
   case rel=>exact⟨j+1,hlt,by go_num,HX,FF⟩
   case measure=>simp[intOf];omega
  have HX:Hid (V= -1):=by
   unfold Hid;rw[HV.out,eY fun k hk=>HJ.out k hk (by omega)]
  go_wp2;go_ret;exact⟨aM HX.out.symm,F0z⟩
def ln0:Ln:=⟨0,nat,0,0⟩
def fP(l:List Ln)(acc:Int)(a:Ast):Ln × Bool:=match bS l acc a with
 |some x=>(x,true)
 |none=>(ln0,false)
def lnV(x:Ln):Value:=.agg #[.int .i64 x.acc,.string (bL x.ast.code),.int .i64 x.ast.iss,.int .i64 x.bal,.int .i64 x.lim]
theorem pF(l:List Ln)(v:Value)(acc:Int)(a:Ast)(w:World)(h:SlR lnR w none v l):Calls Tryz.prog 86 #[v,.int .i64 acc,.agg #[.string (bL a.code),.int .i64 a.iss]] w fun e w'=>e= .returned (.tuple #[lnV (fP l acc a).1,.bool (fP l acc a).2])∧Fr none w w':=by
 obtain⟨A,c,rfl,q1,q2,hc⟩:=aU h;have HC:=sH hc;clear hc;go_enter Tryz.func86,Tryz.ntmps86;go_upto_region 1 with(fail)
 generalize hW:(w.alloc _).alloc _=w1;have F1:Fr none w w1:=hW▸((Fr.refl none w).alloc _).alloc _;have b5:CL2 w1 w.heap.size (.string (bL a.code)) (.int .i64 a.iss) 46:=by rw[←hW];exact aF (aD _ _) ((Fr.refl none _).alloc _) (by simp)
 have b4:w1.heap[w.heap.size+1]?=some (.cells #[.int .i64 0,.string ⟨#[]⟩,.int .i64 0,.int .i64 0,.int .i64 0] 74 (0,0)):=by rw[←hW];exact eT (by simp) _
 clear hW;obtain⟨r5,r6⟩:=b5.cell;have l5:=aC b5;go_wp2_with fail;refine(zW l _ acc a w1 (h.fr F1)).mono ?_;rintro e w2 ⟨rfl,F2⟩;clear r5 r6 l5 b5;have b4:=aF b4 F2 (by simp);have F02:=F1.pure F2;have l4:=aC b4;have r0:w2.cell? ⟨w.heap.size+1,0,none⟩=some (.int .i64 0):=by rw[aA b4];rfl
 have r1:w2.cell? ⟨w.heap.size+1,1,none⟩=some (.string ⟨#[]⟩):=by rw[aA b4];rfl
 have r2:w2.cell? ⟨w.heap.size+1,2,none⟩=some (.int .i64 0):=by rw[aA b4];rfl
 have r3:w2.cell? ⟨w.heap.size+1,3,none⟩=some (.int .i64 0):=by rw[aA b4];rfl
 have r4:w2.cell? ⟨w.heap.size+1,4,none⟩=some (.int .i64 0):=by rw[aA b4];rfl
 have f0:=aB b4 0;have f1:=aB b4 1;have f2:=aB b4 2;have f3:=aB b4 3;have f4:=aB b4 4;rcases fI (isL acc a) l with⟨hi,hf⟩|⟨k,hk,hi,hf,_⟩
 ·have HR:Hid (fP l acc a=(ln0,false)):=by unfold Hid fP bS;rw[hf]
  rw[hi];clear hi hf b4;go_wp2;refine bodyPost_ret (v:=.tuple #[.agg #[.int .i64 0,.string ⟨#[]⟩,.int .i64 0,.int .i64 0,.int .i64 0],.bool false]) (by simp[results,Tryz.results86,go_sem,r0,r1,r2,r3,r4]) rfl ?_;have FF:=((((Fr.set1 w2 ⟨w.heap.size+1,0,none⟩ (.int .i64 0)).same (Fr.set1 _ ⟨w.heap.size+1,1,none⟩ (.string ⟨#[]⟩))).same (Fr.set1 _ ⟨w.heap.size+1,2,none⟩ (.int .i64 0))).same (Fr.set1 _ ⟨w.heap.size+1,3,none⟩ (.int .i64 0))).same (Fr.set1 _ ⟨w.heap.size+1,4,none⟩ (.int .i64 0));exact⟨by rw[HR.out];rfl,F02.own FF⟩
 obtain⟨b,off,rfl,hb,_,hcc⟩:=HC.out (by omega);obtain⟨c1,c2,c3,c4,c5⟩:=hcc k hk;have c1:=F02.keep c1;have c2:=F02.keep c2;have c3:=F02.keep c3;have c4:=F02.keep c4;have c5:=F02.keep c5;have HR:Hid (fP l acc a=(l[k],true)):=by unfold Hid fP bS;rw[hf]
 rw[hi];clear hi hf hcc b4;generalize l[k]=x at*
 go_wp2;refine bodyPost_ret (v:=.tuple #[.agg #[.int .i64 x.acc,.string (bL x.ast.code),.int .i64 x.ast.iss,.int .i64 x.bal,.int .i64 x.lim],.bool true]) (by simp[results,Tryz.results86,go_sem,r0,r1,r2,r3,r4]) rfl ?_;have FF:=((((Fr.set1 w2 ⟨w.heap.size+1,0,none⟩ (.int .i64 x.acc)).same (Fr.set1 _ ⟨w.heap.size+1,1,none⟩ (.string (bL x.ast.code)))).same (Fr.set1 _ ⟨w.heap.size+1,2,none⟩ (.int .i64 x.ast.iss))).same (Fr.set1 _ ⟨w.heap.size+1,3,none⟩ (.int .i64 x.bal))).same (Fr.set1 _ ⟨w.heap.size+1,4,none⟩ (.int .i64 x.lim));exact⟨by rw[HR.out];rfl,F02.own FF⟩
theorem yI{A:List aQ}{l:List Ln}{j m:Nat}{x y:Ln}(hm:0<j→j=m+1)(hy:l[m]?=some y):iK A (bK l j) x= !(!(aK A x.acc).isSome|| !aV x.ast||decide (x.ast=nat)||(x.ast.iss == x.acc)|| !aX x.lim||decide (x.bal<0)||decide (x.lim<x.bal)||(decide (0<j)&& !eP y x.acc x.ast)):=by
 unfold iK bK;generalize aX x.lim=v;generalize aV x.ast=u;generalize(aK A x.acc).isSome=t;rw[Bool.eq_iff_iff];by_cases h0:j=0
 ·subst h0;cases v<;>cases u<;>cases t<;>simp[and_assoc]
 have:=hm (by omega);subst this;cases hs:eP y x.acc x.ast<;>cases v<;>cases u<;>cases t<;>simp[hy,hs,and_assoc]
theorem dY(l:List aQ)(id:Int):(dR l id).2=(aK l id).isSome:=by
 unfold dR;cases aK l id<;>rfl
theorem qZ(l:List Ln)(accs:List aQ)(v va:Value)(w:World)(h:SlR lnR w none v l)(ha:SlR aP w none va accs):Calls Tryz.prog 44 #[v,va] w fun e w'=>e= .returned (.int .i64 (bW l accs))∧Fr none w w':=by
 obtain⟨V,hV⟩:∃V,V=bW l accs:=⟨_,rfl⟩;rw[←hV];have HV:=sH hV;clear hV;obtain⟨A,c,rfl,q1,q2,hc⟩:=aU h;have HC:=sH hc;obtain⟨A2,c2,rfl,_,_,_⟩:=aN ha;have HAc:=sH ha;clear hc ha;obtain⟨CA,hCA⟩:∃CA,CA=cC accs:=⟨_,rfl⟩;have HCA:=sH hCA;clear hCA;by_cases hA:CA=0
 ·subst hA;by_cases hl:60<l.length
  ·have hd:decide ((60:Int)<(l.length:Int))=true:=decide_eq_true (by omega);have HX:Hid (V=3):=by unfold Hid;rw[HV.out];unfold bW;rw[if_neg (fun e=>e HCA.out.symm),if_pos hl]
   clear hl;go_enter Tryz.func44,Tryz.ntmps44;go_wp2_with fail;refine(mN accs _ w HAc.out).mono ?_;rintro e w1 ⟨rfl,F1⟩;rw[←HCA.out];go_wp2;go_ret;exact⟨aM HX.out.symm,F1⟩
  have hd:decide ((60:Int)<(l.length:Int))=false:=decide_eq_false (by omega);have HVl:Hid (V=if bV (iK accs) none l=true then 0 else 74):=by unfold Hid;rw[HV.out];unfold bW;rw[if_neg (fun e=>e HCA.out.symm),if_neg hl]
  clear hl HV;go_enter Tryz.func44,Tryz.ntmps44;go_wp2_with fail;refine(mN accs _ w HAc.out).mono ?_;rintro e w1 ⟨rfl,F1⟩;rw[←HCA.out];go_wp2_with fail;go_loopw [20] (fun s20 wr=>∃j:Nat,j≤l.length∧s20= .int .i64 (j:Int)∧Hid (∀k (hk:k<l.length),k<j→iK accs (bK l k) l[k]=true)∧Fr none w1 wr) (fun s20 _=>l.length - (intOf s20).toNat)
  case atStart=>exact⟨0,by omega,rfl,fun k _ hk=>by omega,Fr.refl _ _⟩
  case round=>
   obtain⟨j,hj,rfl,HJ,F⟩:=hrel;obtain⟨wz,hwz⟩:∃wz:World,wz=wr:=⟨_,rfl⟩;subst hwz;have F0z:=F1.pure F;by_cases hlt:j<l.length
   ·obtain⟨b,off,rfl,hb,_,hcc⟩:=HC.out (by omega);obtain⟨c1,c2,c3,c4,c5⟩:=hcc j hlt;have c1:=F0z.keep c1;have c2:=F0z.keep c2;have c3:=F0z.keep c3;have c4:=F0z.keep c4;have c5:=F0z.keep c5;have HNo:Hid (iK accs (bK l j) l[j]=false→V=74):=fun h=>by rw[HVl.out,if_neg (by rw[gC hlt h];simp)]
    have HYes:Hid (iK accs (bK l j) l[j]=true→∀k (hk:k<l.length),k<j+1→iK accs (bK l k) l[k]=true):=fun h k hk hkj=>by
     rcases Nat.lt_or_ge k j with hh|hh
     ·exact HJ.out k hk hh
     obtain rfl:k=j:=by omega
     exact h
    obtain⟨m,hm,hml⟩:∃m,(0<j→j=m+1)∧m<l.length:=⟨j - 1,by omega,by omega⟩;obtain⟨d1,d2,d3,d4,d5⟩:=hcc m hml;have d1:=F0z.keep d1;have d2:=F0z.keep d2;have d3:=F0z.keep d3;have d4:=F0z.keep d4;have d5:=F0z.keep d5;have hwr:0<j→IntKind.i64.wrap ((j:Int) - 1)=(m:Int):=fun h=>by have:=hm h;rw[IntKind.wrap_i64];omega
    have hml':(m:Int)<(l.length:Int):=by omega
    have HB:=sH (yI (A:=accs) (x:=l[j]) hm (List.getElem?_eq_getElem hml));clear hcc HJ hm;generalize l[j]=x at*
    generalize l[m]=y at*
    go_upto_region 9 with(fail)
    generalize hW:wz.alloc _=wy;have Fy:Fr none wz wy:=hW▸(Fr.refl none wz).alloc _;have b4:wy.heap[wz.heap.size]?=some (.cells #[.int .i64 x.acc,.string (bL x.ast.code),.int .i64 x.ast.iss,.int .i64 x.bal,.int .i64 x.lim] 74 (0,0)):=by rw[←hW];exact aD _ _
    have r1:wy.cell? ⟨wz.heap.size,0,none⟩=some (.int .i64 x.acc):=by rw[aA b4];rfl
    have l4:=aC b4;clear hW c1 c2 c3 c4 c5;go_wp2_with fail;refine(fM accs _ x.acc wy (HAc.out.fr (F0z.pure Fy))).mono ?_;rintro e wf ⟨rfl,Ff⟩;have hfs:=dY accs x.acc;generalize dR accs x.acc=R at*
    obtain⟨⟨f1,f2,f3⟩,FB⟩:=R;have HFB:Hid (FB=(aK accs x.acc).isSome):=hfs;clear hfs r1 l4;simp only[xB];have b4:=aF b4 Ff (by simp);go_upto_region 10 with(fail)
    generalize hW:wf.alloc _=wa;have Fb:Fr none wf wa:=hW▸(Fr.refl none wf).alloc _;clear hW;have Fa:=Fy.pure (Ff.pure Fb);have b4:=aF b4 Fb (by simp);have HS:Hid (∀W,Fr none wa W→(W.cell? ⟨b,off+m*5,none⟩=some (.int .i64 y.acc)∧W.cell? ⟨b,off+m*5+1,none⟩=some (.string (bL y.ast.code))∧W.cell? ⟨b,off+m*5+2,none⟩=some (.int .i64 y.ast.iss)∧W.cell? ⟨b,off+m*5+3,none⟩=some (.int .i64 y.bal)∧W.cell? ⟨b,off+m*5+4,none⟩=some (.int .i64 y.lim))∧W.cell? ⟨wz.heap.size,0,none⟩=some (.int .i64 x.acc)∧W.cell? ⟨wz.heap.size,1,none⟩=some (.string (bL x.ast.code))∧W.cell? ⟨wz.heap.size,2,none⟩=some (.int .i64 x.ast.iss)∧W.cell? ⟨wz.heap.size,3,none⟩=some (.int .i64 x.bal)∧W.cell? ⟨wz.heap.size,4,none⟩=some (.int .i64 x.lim)):=fun W FW=>by
     have:=aF b4 FW (by simp);have FK:=Fa.pure FW;exact⟨⟨FK.keep d1,FK.keep d2,FK.keep d3,FK.keep d4,FK.keep d5⟩,by rw[aA this];rfl,by rw[aA this];rfl,by rw[aA this];rfl,by rw[aA this];rfl,by rw[aA this];rfl⟩
    rw[←HFB.out] at HB;clear b4 Fy Ff Fb d1 d2 d3 d4 d5 HFB;refine aL (fun W=>Fr none wa W) 56 89 [some 87,some 86,some 85,some 84,some 83,some 82,some 81,some 80,some 79,some 78,some 77,some 76,some 75,some 74,some 73,some 72,some 71,some 70,some 69,some 68,some 67,some 66,some 65,some 64,some 63,some 62,some 61,some 60,some 59,some 58,some 57,some 56,some 55,some 54,some 53,some 52,some 51,some 50,some 49,some 48,some 47,some 46,some 45,some 44,some 43,some 42,some 41,some 40,some 39,some 38,some 37,some 36,some 35,some 34,some 33,some 32] (by kernel_rfl) (by kernel_rfl) (by kernel_rfl) (Nat.le_refl _) ((Fr.refl _ _).drew) ?_;refine FxL.p [] [9] ?_;refine FxL.p [(0,0,32)] [] ?_;refine FxL.p [(0,1,33)] [] ?_;refine FxL.x 0 [] [7] ?_;have HF1:=sH (fun(w:World) (hS:(fun W=>Fr none wa W) w)=>HS.out w hS);refine FxL.xq HF1.out 1 [(0,3,35)] [] ?_;refine FxL.gwc (u:=?_) (f:=?_) (args:=?_) rfl 2 rfl (by simp only[aG]<;>rfl) (fun hg ev w hS E=>?_) (fun hg w hS=>?_) ?_;rotate_left 3
    ·obtain⟨⟨k1,k2,k3,k4,k5⟩,k6,k7,k8,k9,k10⟩:=HS.out w hS;obtain⟨t36,ec,ef,eg⟩:=E.get [(0,4,36)] [] (by kernel_rfl);clear E;simp only[aG] at t36
     (try simp only[hg,bG] at t36);go_simp;first|(refine And.intro ?_ ?_<;>with_reducible rfl)|with_reducible rfl
    ·obtain⟨⟨k1,k2,k3,k4,k5⟩,k6,k7,k8,k9,k10⟩:=HS.out w hS;refine(iR x.ast w).mono ?_;rintro e w2 ⟨rfl,F2⟩;refine⟨?_,hS.pure F2⟩;with_reducible rfl
    refine FxL.x 3 [(0,5,37)] [] ?_;refine FxL.por rfl rfl 4 2 0 6 (by kernel_rfl) rfl rfl ?_;refine FxL.p [(0,7,39)] [] ?_;refine FxL.x 0 [] [7] ?_;refine FxL.xq HF1.out 1 [(0,9,41)] [] ?_;refine FxL.gwc (u:=?_) (f:=?_) (args:=?_) rfl 2 rfl (by simp only[aG]<;>rfl) (fun hg ev w hS E=>?_) (fun hg w hS=>?_) ?_;rotate_left 3
    ·obtain⟨⟨k1,k2,k3,k4,k5⟩,k6,k7,k8,k9,k10⟩:=HS.out w hS;obtain⟨t42,ec,ef,eg⟩:=E.get [(0,10,42)] [] (by kernel_rfl);clear E;simp only[aG] at t42
     (try simp only[hg,bG] at t42);go_simp;first|(refine And.intro ?_ ?_<;>with_reducible rfl)|with_reducible rfl
    ·obtain⟨⟨k1,k2,k3,k4,k5⟩,k6,k7,k8,k9,k10⟩:=HS.out w hS;refine(lQ x.ast w).mono ?_;rintro e w2 ⟨rfl,F2⟩;refine⟨?_,hS.pure F2⟩;with_reducible rfl
    refine FxL.por rfl rfl 3 8 0 11 (by kernel_rfl) rfl rfl ?_;refine FxL.p [(0,12,44)] [] ?_;refine FxL.x 0 [] [7] ?_;refine FxL.x 1 [(0,14,46)] [] ?_;refine FxL.xq HF1.out 2 [(0,15,47)] [] ?_;refine FxL.x 3 [] [7] ?_;refine FxL.xq HF1.out 4 [(0,17,49)] [] ?_;refine FxL.x 5 [(2,16,48),(0,18,50)] [] ?_;refine FxL.por rfl rfl 6 13 0 19 (by kernel_rfl) rfl rfl ?_;refine FxL.p [(0,20,52)] [] ?_;refine FxL.x 0 [] [7] ?_;refine FxL.xq HF1.out 1 [(0,22,54)] [] ?_;refine FxL.gwc (u:=?_) (f:=?_) (args:=?_) rfl 2 rfl (by simp only[aG]<;>rfl) (fun hg ev w hS E=>?_) (fun hg w hS=>?_) ?_;rotate_left 3
    ·obtain⟨⟨k1,k2,k3,k4,k5⟩,k6,k7,k8,k9,k10⟩:=HS.out w hS;obtain⟨t55,ec,ef,eg⟩:=E.get [(0,23,55)] [] (by kernel_rfl);clear E;simp only[aG] at t55
     (try simp only[hg,bG] at t55);go_simp;first|(refine And.intro ?_ ?_<;>with_reducible rfl)|with_reducible rfl
    ·obtain⟨⟨k1,k2,k3,k4,k5⟩,k6,k7,k8,k9,k10⟩:=HS.out w hS;refine(jT x.lim w).mono ?_;rintro e w2 ⟨rfl,F2⟩;refine⟨?_,hS.pure F2⟩;with_reducible rfl
    refine FxL.x 3 [(0,24,56)] [] ?_;refine FxL.por rfl rfl 4 21 0 25 (by kernel_rfl) rfl rfl ?_;refine FxL.p [(0,26,58)] [] ?_;refine FxL.x 0 [] [7] ?_;refine FxL.xq HF1.out 1 [(0,28,60)] [] ?_;refine FxL.x 2 [(0,29,61)] [] ?_;refine FxL.por rfl rfl 3 27 0 30 (by kernel_rfl) rfl rfl ?_;refine FxL.p [(0,31,63)] [] ?_;refine FxL.x 0 [] [7] ?_;refine FxL.xq HF1.out 1 [(0,33,65)] [] ?_;refine FxL.x 2 [] [7] ?_;refine FxL.xq HF1.out 3 [(0,35,67)] [] ?_;refine FxL.x 4 [(2,34,66),(0,36,68)] [] ?_;refine FxL.por rfl rfl 5 32 0 37 (by kernel_rfl) rfl rfl ?_;refine FxL.p [(0,38,70)] [] ?_;refine FxL.x 0 [] [6] ?_;refine FxL.x 1 [(0,40,72)] [] ?_;refine FxL.x 2 [(0,41,73)] [] ?_;refine FxL.x 0 [] [0] ?_;refine FxL.x 1 [] [6] ?_;refine FxL.gw (u:=?_) rfl 2 rfl (by simp only[aG]<;>rfl) (fun hg ev w hS E=>?_) ?_;rotate_left
    ·obtain⟨t76,ec,ef,eg⟩:=E.get [(0,44,76)] [] (by kernel_rfl);clear E;simp only[aG] at t76
     (try simp only[hg,bG] at t76)
     have hd:=of_decide_eq_true (iC hg).2;have hw:=hwr (by omega);go_simp;try with_reducible rfl
    refine FxL.xq HF1.out 3 [(2,43,75),(0,45,77)] [] ?_;refine FxL.xq HF1.out 4 [(0,46,78)] [] ?_;refine FxL.x 5 [] [7] ?_;refine FxL.xq HF1.out 6 [(0,48,80)] [] ?_;refine FxL.x 7 [] [7] ?_;refine FxL.xq HF1.out 8 [(0,50,82)] [] ?_;refine FxL.gwc (u:=?_) (f:=?_) (args:=?_) rfl 9 rfl (by simp only[aG]<;>rfl) (fun hg ev w hS E=>?_) (fun hg w hS=>?_) ?_;rotate_left 3
    ·obtain⟨⟨k1,k2,k3,k4,k5⟩,k6,k7,k8,k9,k10⟩:=HS.out w hS;obtain⟨t79,t81,t83,ec,ef,eg⟩:=E.get [(4,47,79),(2,49,81),(0,51,83)] [] (by kernel_rfl);clear E;simp only[aG] at t79 t81 t83
     (try simp only[hg,bG] at t79 t81 t83);go_simp;first|(refine And.intro ?_ ?_<;>with_reducible rfl)|with_reducible rfl
    ·obtain⟨⟨k1,k2,k3,k4,k5⟩,k6,k7,k8,k9,k10⟩:=HS.out w hS;refine(Bw y x.acc x.ast w).mono ?_;rintro e w2 ⟨rfl,F2⟩;refine⟨?_,hS.pure F2⟩;with_reducible rfl
    refine FxL.x 10 [(0,52,84)] [] ?_;refine FxL.gpand rfl rfl 14 rfl (by simp only[aG]<;>rfl) 11 42 0 53 (by kernel_rfl) rfl rfl ?_;refine FxL.por rfl rfl 15 39 0 54 (by kernel_rfl) rfl rfl ?_;refine FxL.done (fun W hW=>?_);simp only[bF];try simp only[sI]
    try simp only[sK]
    generalize hb:(!FB|| !aV x.ast||decide (x.ast=nat)||(x.ast.iss == x.acc)|| !aX x.lim||decide (x.bal<0)||decide (x.lim<x.bal)||(decide (0<j)&& !eP y x.acc x.ast))=big at HB ⊢;have HX:=HB.out;clear hb HB;have FF:=F.pure (Fa.pure hW);have FF0:=F0z.pure (Fa.pure hW);cases big with
    |true=>
     have HX:=sH (HNo.out HX);go_wp2;go_ret;exact⟨aM HX.out.symm,FF0⟩
    |false=>
     have HX:=sH (HYes.out HX);go_wp2_with fail;go_roundw
     case rel=>exact⟨_,hlt,by go_num,HX.out,FF⟩
     case measure=>simp[intOf];omega
   have HX:Hid (V=0):=by
    unfold Hid;rw[HVl.out,if_pos (eZ fun k hk=>HJ.out k hk (by omega))]
   go_wp2;go_ret;exact⟨aM HX.out.symm,F0z⟩
 have HX:Hid (V=CA):=by unfold Hid;rw[HV.out];unfold bW;rw[if_pos (fun e=>hA (by rw[HCA.out,e])),HCA.out]
 have hq:(CA == 0)=false:=by rw[beq_eq_false_iff_ne];exact hA
 clear hA;go_enter Tryz.func44,Tryz.ntmps44;go_wp2_with fail;refine(mN accs _ w HAc.out).mono ?_;rintro e w1 ⟨rfl,F1⟩;rw[←HCA.out];go_wp2;go_ret;exact⟨aM HX.out.symm,F1⟩
end Go.Proofs.YthaggndnfamhjaaGreatDoor
