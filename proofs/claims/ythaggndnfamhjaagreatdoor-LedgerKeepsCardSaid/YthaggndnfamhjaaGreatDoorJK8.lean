/- Texts, joined. -/
import Derived.Test.YthaggndnfamhjaaGreatDoorProg
import Derived.Test.YthaggndnfamhjaaGreatDoorJK1
import Derived.Test.YthaggndnfamhjaaGreatDoorJK7
import Derived.Test.YthaggndnfamhjaaGreatDoorJK3
import Derived.Lib.ConvBytes
import Derived.Test.YthaggndnfamhjaaGreatDoorJK15
import Derived.Test.YthaggndnfamhjaaGreatDoorJK16
import Derived.Test.YthaggndnfamhjaaGreatDoorJK18
import Derived.Test.YthaggndnfamhjaaGreatDoorJA

set_option linter.unusedSimpArgs false
set_option linter.unusedVariables false
set_option maxRecDepth 100000
set_option maxHeartbeats 16000000
namespace Go.Proofs.YthaggndnfamhjaaGreatDoor
open Go.RowKit
def Db(b B k:Nat):Prop:=k<B∧k≠b
def FdB(w:World)(b B:Nat)(L:List (List UInt8))(bad:Bool):Prop:=B≤w.heap.size∧∃A c,w.heap[b]?=some (.cells #[.slice A L.length c,.bool bad] 143 (0,0))∧SlD w (Db b B) 1 (.slice A L.length c) (L.map fun x=>Value.string (bL x))
theorem qR{r:Option Nat}{w w':World}{b B:Nat}(hB:B≤w.heap.size)(F:Fr r w w')(h:∀g,r=some g→B≤g∨g=b):∀k,Db b B k→Db b B k∧w'.heap[k]?=w.heap[k]?:=fun k hk=>⟨hk,F.block k (Nat.lt_of_lt_of_le hk.1 hB) (fun e=>by rcases h k e.symm with h|h;exact absurd hk.1 (by omega);exact hk.2 h)⟩
theorem FdB.fr{r:Option Nat}{w w':World}{b B:Nat}{L:List (List UInt8)}{bad:Bool}(h:FdB w b B L bad)(F:Fr r w w')(h1:r≠some b)(h2:∀g,r=some g→B≤g):FdB w' b B L bad:=by
 obtain⟨hB,A,c,hb,hs⟩:=h;exact⟨Nat.le_trans hB F.size,A,c,aF hb F h1,hs.keep (qR hB F fun g e=>.inl (h2 g e))⟩
theorem FdB.lt{w:World}{b B:Nat}{L:List (List UInt8)}{bad:Bool}(h:FdB w b B L bad):b<w.heap.size:=by
 obtain⟨hB,A,c,hb,hs⟩:=h;exact aC hb
theorem SlD.drop1{w:World}{D:Nat→Prop}{q off n c:Nat}{x:Value}{xs:List Value}(h:SlD w D 1 (.slice (some ⟨q,off,none⟩) (n+1) c) (x::xs)):(c=1→SlD w D 1 (.slice (some ⟨q,off,none⟩) n (c - 1)) xs)∧(c≠1→SlD w D 1 (.slice (some ⟨q,off+1,none⟩) n (c - 1)) xs):=by
 obtain⟨A,m,c',hv,hl,hc,hm,hx⟩:=h;injection hv with v1 v2 v3
 subst v1 v2 v3;simp only[List.length_cons,Nat.mul_one] at hl;obtain⟨b,o,hb,hD,hx⟩:=hx (by omega);injection hb with hb
 injection hb with hb1 hb2
 subst hb1 hb2;refine⟨fun e=>⟨_,n,_,rfl,by omega,by omega,by omega,fun h=>by omega⟩,fun e=>⟨_,n,_,rfl,by omega,by omega,by omega,fun _=>⟨q,off+1,rfl,hD,fun j u hu=>?_⟩⟩⟩;have:=hx (j+1) u (by simpa using hu);rw[show off+1+j=off+(j+1) by omega];exact this
theorem FdB.set{w:World}{b B:Nat}{A:Option Addr}{c:Nat}{L:List (List UInt8)}{bad:Bool}(hB:B≤w.heap.size)(hb:w.heap[b]?=some (.cells #[.slice A L.length c,.bool bad] 143 (0,0)))(hs:SlD w (Db b B) 1 (.slice A L.length c) (L.map fun x=>Value.string (bL x)))(v:Bool):FdB (w.setCell ⟨b,1,none⟩ (.bool v)) b B L v:=
 ⟨by have:=(Fr.set1 w ⟨b,1,none⟩ (.bool v)).size;omega,A,c,by have:=aI hb 1 (.bool v);simpa using this,hs.keep (qR hB (Fr.set1 w ⟨b,1,none⟩ (.bool v)) fun g e=>.inr (Option.some.inj e).symm)⟩
theorem oO(b B:Nat)(L:List (List UInt8))(bad:Bool)(w:World)(h:FdB w b B L bad):Calls Tryz.prog 130 #[.pointer (some ⟨b,0,none⟩)] w fun e w'=>e= .returned (.string (bL (L.headD [])))∧FdB w' b B (L.drop 1) (bad||L.isEmpty)∧Fr (some b) w w':=by
 obtain⟨hBB,A,c,hb,hs⟩:=h;have c0:w.cell? ⟨b,0,none⟩=some (.slice A L.length c):=by rw[aA hb];rfl
 have c1:w.cell? ⟨b,1,none⟩=some (.bool bad):=by rw[aA hb];rfl
 have z0:=aB hb 0;have z1:=aB hb 1;have lb:=aC hb;have HB:=sH hb;have HS:=sH hs;have HBB:=sH hBB;clear hb hs hBB;cases L with
 |nil=>
  go_enter Tryz.func130,Tryz.ntmps130;go_wp2;go_ret;refine⟨rfl,?_,Fr.set1 w ⟨b,1,none⟩ _⟩;have:=FdB.set HBB.out HB.out HS.out true;simpa using this
 |cons x r=>
  have hs:=HS.out;obtain⟨A',n',c',hv,hl,hc,hm,hx⟩:=hs;injection hv with v1 v2 v3
  subst v1 v2 v3;obtain⟨q,off,rfl,hq,hx⟩:=hx (by simp);have d0:w.cell? ⟨q,off,none⟩=some (.string (bL x)):=by have:=hx 0 (.string (bL x)) (by simp);simpa using this
  have hq1:q<w.heap.size:=Nat.lt_of_lt_of_le hq.1 HBB.out;simp only[List.length_cons] at c0 HB HS hc;obtain⟨k1,k2⟩:=SlD.drop1 HS.out;have K1:=sH k1;have K2:=sH k2;have hlt0:¬((r.length:Int)+1=0):=by omega
  clear hx hl hm k1 k2 hq;by_cases hc1:c=1
  ·subst hc1;have hr0:r.length=0:=by omega
   go_enter Tryz.func130,Tryz.ntmps130;go_wp2;go_ret;refine⟨rfl,⟨Nat.le_trans HBB.out (Fr.set1 w ⟨b,0,none⟩ (.slice (some ⟨q,off,none⟩) 0 0)).size,some ⟨q,off,none⟩,0,?_,?_⟩,Fr.set1 w ⟨b,0,none⟩ (.slice (some ⟨q,off,none⟩) 0 0)⟩
   ·have:=aI HB.out 0 (.slice (some ⟨q,off,none⟩) 0 0);simpa[hr0] using this
   have:=(K1.out trivial).keep (qR HBB.out (Fr.set1 w ⟨b,0,none⟩ (.slice (some ⟨q,off,none⟩) 0 0)) fun g e=>.inr (Option.some.inj e).symm);simpa[hr0] using this
  go_enter Tryz.func130,Tryz.ntmps130;go_wp2;go_ret;refine⟨rfl,⟨Nat.le_trans HBB.out (Fr.set1 w ⟨b,0,none⟩ (.slice (some ⟨q,off+1,none⟩) r.length (c - 1))).size,some ⟨q,off+1,none⟩,c - 1,?_,?_⟩,Fr.set1 w ⟨b,0,none⟩ (.slice (some ⟨q,off+1,none⟩) r.length (c - 1))⟩
  ·have:=aI HB.out 0 (.slice (some ⟨q,off+1,none⟩) r.length (c - 1));simpa using this
  exact(K2.out hc1).keep (qR HBB.out (Fr.set1 w ⟨b,0,none⟩ (.slice (some ⟨q,off+1,none⟩) r.length (c - 1))) fun g e=>.inr (Option.some.inj e).symm)
def Errs(w:World):Prop:=(∃t p,w.cell? ⟨3,0,none⟩=some (.iface t p))∧(∃t p,w.cell? ⟨4,0,none⟩=some (.iface t p))
theorem Errs.frs{r:Option Nat}{w w':World}(h:Errs w)(F:Fr r w w')(h1:r≠some 3)(h2:r≠some 4):Errs w':=by
 obtain⟨⟨t,p,e1⟩,⟨u,q,e2⟩⟩:=h;exact⟨⟨t,p,F.keep e1 (fun e=>h1 e.symm)⟩,⟨u,q,F.keep e2 (fun e=>h2 e.symm)⟩⟩
def AtP(o:Option Int)(n:Int)(v:Value):Prop:=(∃m,o=some m∧n=m∧v= .nilIface)∨(o=none∧∃t p,v= .iface t p)
theorem qS(S:ByteArray)(w:World)(hz:S.size≤1073741824)(hE:Errs w):
  Calls Tryz.prog 129 #[.string S] w fun e w'=>∃n v,e= .returned (.tuple #[.int .i64 n,v])∧AtP (rdN S.data.toList) n v∧Wi n∧Fr none w w':=by
 obtain⟨⟨t,p,h1⟩,⟨u,q,h2⟩⟩:=hE;cases h:Lib.atoiAll S.data.toList with
 |ok n=>
  refine(Any.strconv_Atoi_ok Tryz.laysC172 S (by omega) n h w).mono ?_;rintro e w' ⟨rfl,hw⟩;refine⟨n,.nilIface,rfl,.inl ⟨n,by unfold rdN;rw[h],rfl,rfl⟩,Lib.atoiAll_bounds h,?_⟩;rcases hw with rfl|⟨x,rfl⟩
  ·exact Fr.refl _ _
  exact Fr.of_below (Lib.bytesWorld_below _ _ _)
 |range=>
  refine(Any.strconv_Atoi_range Tryz.laysC172 S (by omega) h _ w h2 (.inr ⟨u,q,rfl⟩)).mono ?_;rintro e w' ⟨N,rfl,_,_,hB⟩;refine⟨_,_,rfl,.inr ⟨by unfold rdN;rw[h],_,_,rfl⟩,?_,Fr.of_below hB⟩;unfold Lib.atoiSat;constructor<;>(split<;>omega)
 |_=>
  refine(Any.strconv_Atoi_syntax Tryz.laysC172 S (by omega) h _ w h1 (.inr ⟨t,p,rfl⟩)).mono ?_;rintro e w' ⟨N,rfl,_,_,hB⟩;exact⟨0,_,rfl,.inr ⟨by unfold rdN;rw[h],_,_,rfl⟩,by constructor<;>decide,Fr.of_below hB⟩
def wS(L:List (List UInt8))(bad:Bool)(n:Int)(bad':Bool):Prop:=(bad'=false→bad=false∧fdN L=some n)∧(bad'=true→bad=true∨fdN L=none)
theorem Bn{L:List (List UInt8)}{bad:Bool}{X:List UInt8}{o:Option Int}(h:(bad||L.isEmpty)=false)(hX:L.headD []=X)(ho:rdN X=o):bad=false∧fdN L=o:=by
 cases L with
 |nil=>simp at h
 |cons x r=>subst hX;exact⟨by simpa using h,ho⟩
theorem Bo{L:List (List UInt8)}{bad:Bool}{X:List UInt8}{o:Option Ast}(h:(bad||L.isEmpty)=false)(hX:L.headD []=X)(ho:rdA X=o):bad=false∧fdA L=o:=by
 cases L with
 |nil=>simp at h
 |cons x r=>subst hX;exact⟨by simpa using h,ho⟩
theorem yE{L:List (List UInt8)}{bad:Bool}{X:List UInt8}(hX:L.headD []=X)(ho:rdA X=none):bad=true∨fdA L=none:=by
 cases L with
 |nil=>exact .inr rfl
 |cons x r=>subst hX;exact .inr ho
theorem iM(b B:Nat)(L:List (List UInt8))(bad:Bool)(w:World)(h:FdB w b B L bad)(hE:Errs w)(hL:∀x ∈ L,x.length≤1000000)(hb1:b≠3)(hb2:b≠4):Calls Tryz.prog 95 #[.pointer (some ⟨b,0,none⟩)] w fun e w'=>∃n bad',e= .returned (.int .i64 n)∧FdB w' b B (L.drop 1) bad'∧wS L bad n bad'∧Wi n∧Fr (some b) w w':=by
 have HL:=sH hL;clear hL;go_enter Tryz.func95,Tryz.ntmps95;go_wp2_with fail;refine(oO b B L bad w h).mono ?_;rintro e w1 ⟨rfl,h1,F1⟩;have hE1:=hE.frs F1 (fun e=>hb1 (Option.some.inj e)) (fun e=>hb2 (Option.some.inj e));have hsz:(bL (L.headD [])).size≤1000000:=by
  rw[dB];cases L with
  |nil=>simp
  |cons x r=>exact HL.out x (by simp)
 generalize hX:L.headD []=X at hsz ⊢;have HX:=sH hX;clear hX;clear h hE;go_wp2_with fail;refine(qS (bL X) w1 (by omega) hE1).mono ?_;rintro e w2 ⟨n,v,rfl,hv,hwi,F2⟩;rw[fX] at hv;obtain⟨hB1,A,c,hb,hs⟩:=h1;have hbk:=aF hb F2 (by simp);have hsl:=hs.keep (qR hB1 F2 fun g e=>by cases e);have HBB:=sH (Nat.le_trans hB1 F2.size);clear hB1;have c0:w2.cell? ⟨b,0,none⟩=some (.slice A (L.drop 1).length c):=by rw[aA hbk];rfl
 have c1:w2.cell? ⟨b,1,none⟩=some (.bool (bad||L.isEmpty)):=by rw[aA hbk];rfl
 have z1:=aB hbk 1;have lb:=aC hbk;have HBK:=sH hbk;have HSL:=sH hsl;have FF:=F1.pure F2;have HWI:=sH hwi;clear hbk hsl hwi F1 F2 hE1;cases hbd:(bad||L.isEmpty) with
 |true=>
  rw[hbd] at c1;have HBD:=sH hbd;clear hbd;go_wp2;go_ret;refine⟨n,true,rfl,FdB.set HBB.out HBK.out HSL.out true,⟨(fun e=>by cases e),fun _=>?_⟩,HWI.out,FF.setRow rfl _⟩;have:=HBD.out;cases L with
  |nil=>exact .inr rfl
  |cons x r=>exact .inl (by simpa using this)
 |false=>
  rw[hbd] at c1;have HBD:=sH hbd;clear hbd;rcases hv with⟨m,hm,rfl,rfl⟩|⟨hm,t,p,rfl⟩
  ·have HM:=sH hm;clear hm;go_wp2;go_ret;refine⟨n,false,rfl,FdB.set HBB.out HBK.out HSL.out false,⟨fun _=>?_,fun e=>by cases e⟩,HWI.out,FF.setRow rfl _⟩;exact Bn HBD.out HX.out HM.out
  have HM:=sH hm;clear hm;go_wp2;go_ret;refine⟨n,true,rfl,FdB.set HBB.out HBK.out HSL.out true,⟨(fun e=>by cases e),fun _=>.inr ?_⟩,HWI.out,FF.setRow rfl _⟩;exact(Bn HBD.out HX.out HM.out).2
theorem Bp:∀(X C:List UInt8),Lib.indexAny X C≤X.length
 |[],C=>by simp[Lib.indexAny]
 |x::r,C=>by
  have:=Bp r C;unfold Lib.indexAny;split
  ·simp only[List.length_cons];omega
  split<;>simp only[List.length_cons]<;>omega
theorem oP{w:World}{b B g:Nat}{L:List (List UInt8)}{bad:Bool}{u v:Value}{t:TypeId}{fz:Nat × Nat}(h:FdB w b B L bad)(hb:w.heap[g]?=some (.cells #[u,v] t fz))(hg:B≤g)(hne:some b≠some g)(x y:Value):
  ((w.setCell ⟨g,0,none⟩ x).setCell ⟨g,1,none⟩ y).cell? ⟨g,0,none⟩=some x∧((w.setCell ⟨g,0,none⟩ x).setCell ⟨g,1,none⟩ y).cell? ⟨g,1,none⟩=some y∧Fr (some g) w ((w.setCell ⟨g,0,none⟩ x).setCell ⟨g,1,none⟩ y)∧FdB ((w.setCell ⟨g,0,none⟩ x).setCell ⟨g,1,none⟩ y) b B L bad:=by
 have F:Fr (some g) w ((w.setCell ⟨g,0,none⟩ x).setCell ⟨g,1,none⟩ y):=(Fr.set1 w ⟨g,0,none⟩ x).setRow (p:=⟨g,1,none⟩) rfl y;have k1:=aI hb 0 x;have k2:=aI k1 1 y;exact⟨by rw[aA k2];rfl,by rw[aA k2];rfl,F,h.fr F (fun e=>hne e.symm) (fun k e=>by rw[←Option.some.inj e];exact hg)⟩
theorem wT:∀c ∈ oM,c.toNat<128:=by decide
theorem DI(X:List UInt8)(w:World)(hs:(bL X).size≤1000000)(ha:∀c ∈ X,c.toNat<128):Calls Tryz.prog 168 #[.string (bL X),.string ⟨#[48,49,50,51,52,53,54,55,56,57]⟩] w fun e w'=>e= .returned (.int .i64 (Lib.indexAny X oM))∧Fr none w w':=
 (Tryz.strings_IndexAny_laid (bL X) ⟨#[48,49,50,51,52,53,54,55,56,57]⟩ w (by omega) (by decide) (fun j c h=>ha c (List.mem_of_getElem? h)) (fun j c h=>wT c (List.mem_of_getElem? h))).mono fun e w' h=>⟨h.1,Fr.of_below h.2⟩
theorem zL(b B:Nat)(L:List (List UInt8))(bad:Bool)(w:World)(h:FdB w b B L bad)(hE:Errs w)(hL:∀x ∈ L,x.length≤1000000∧∀c ∈ x,c.toNat<128)(hb1:b≠3)(hb2:b≠4):Calls Tryz.prog 131 #[.pointer (some ⟨b,0,none⟩)] w fun e w'=>∃a bad',e= .returned (.agg #[.string (bL a.code),.int .i64 a.iss])∧FdB w' b B (L.drop 1) bad'∧((bad'=false→bad=false∧fdA L=some a)∧(bad'=true→bad=true∨fdA L=none))∧Wi a.iss∧Fr (some b) w w':=by
 have HL:=sH hL;clear hL;go_enter Tryz.func131,Tryz.ntmps131;go_upto_region 1 with(fail)
 generalize hW:w.alloc _=w0;have F0:Fr none w w0:=hW▸(Fr.refl none w).alloc _;have b0:w0.heap[w.heap.size]?=some (.cells #[.string (bL []),.int .i64 0] 46 (0,0)):=by rw[←hW];exact aD _ _
 have lW:w.heap.size<w0.heap.size:=aC b0;clear hW;have hlb:b<w.heap.size:=h.lt;have hBw:Hid (B≤w.heap.size):=h.1;have h0:FdB w0 b B L bad:=h.fr F0 (by simp) (fun g e=>by cases e);have hE0:=hE.frs F0 (fun e=>by cases e) (fun e=>by cases e);clear h hE;go_wp2_with fail;refine(oO b B L bad w0 h0).mono ?_;rintro e w1 ⟨rfl,h1,F1⟩;have hE1:=hE0.frs F1 (fun e=>hb1 (Option.some.inj e)) (fun e=>hb2 (Option.some.inj e));have hsz:(bL (L.headD [])).size≤1000000:=by
  rw[dB];cases L with
  |nil=>simp
  |cons x r=>exact(HL.out x (by simp)).1
 have has:∀c ∈ L.headD [],c.toNat<128:=by
  cases L with
  |nil=>simp
  |cons x r=>exact(HL.out x (by simp)).2
 generalize hX:L.headD []=X at hsz has ⊢;have HX:=sH hX;have HA:=sH has;clear hX has h0 hE0;have hne:some b≠some w.heap.size:=fun e=>by have:=Option.some.inj e;omega
 have b1:=aF b0 F1 hne;have FF:=F0.mono.same F1;have z0:=aB b1 0;have z1:=aB b1 1;have e0:w1.cell? ⟨w.heap.size,0,none⟩=some (.string (bL [])):=by rw[aA b1];rfl
 have e1:w1.cell? ⟨w.heap.size,1,none⟩=some (.int .i64 0):=by rw[aA b1];rfl
 have lb1:=aC b1;have HB1:=sH b1;clear b1 b0 F0 F1;have hq:((bL X).toList == [45])=decide (X=[45]):=by
  rw[bQ];by_cases h:X=[45]
  ·subst h;rfl
  rw[decide_eq_false h];simpa using h
 by_cases hx:X=[45]
 ·rw[decide_eq_true hx] at hq;have HXX:=sH hx;clear hx;go_wp2_with fail;obtain⟨R0,R1,R2,R3⟩:=oP h1 HB1.out hBw.out hne (.string ⟨#[]⟩) (.int .i64 0);revert R0 R1 R2 R3;generalize hW5:World.setCell _ _ _=w9;intro R0 R1 R2 R3;clear hW5;refine bodyPost_ret (v:=.agg #[.string ⟨#[]⟩,.int .i64 0]) (by simp[results,Tryz.results131,go_sem,R0,R1]) rfl ?_;refine⟨nat,bad||L.isEmpty,rfl,R3,⟨fun e=>?_,fun e=>?_⟩,by constructor<;>decide,FF.new R2 (Nat.le_refl _)⟩
  ·have:=Bo e HX.out rfl;rw[HXX.out] at this;exact this
  rw[Bool.or_eq_true] at e;rcases e with e|e
  ·exact .inl e
  rw[List.isEmpty_iff] at e;subst e;exact .inr rfl
 rw[decide_eq_false hx] at hq;have HXX:=sH hx;clear hx;go_wp2_with fail;refine(DI X w1 (by omega) HA.out).mono ?_;rintro e w2 ⟨rfl,hF2⟩;have h2:=h1.fr hF2 (by simp) (fun g e=>by cases e);have hE2:=hE1.frs hF2 (fun e=>by cases e) (fun e=>by cases e);have FF2:=FF.pure hF2;have HB2:=sH (aF HB1.out hF2 (by simp));have lb2:=Nat.lt_of_lt_of_le lb1 hF2.size;have hge:=Lib.indexAny_ge oM X;have hle:=Bp X oM;have hsz':=dB X;generalize hk:Lib.indexAny X oM=k at hge hle ⊢;have HK:=sH hk;clear hk h1 HB1 hF2 FF hE1 z0 z1 e0 e1 lb1;obtain⟨hB2,A,c,hb,hs⟩:=h2;have c1:w2.cell? ⟨b,1,none⟩=some (.bool (bad||L.isEmpty)):=by rw[aA hb];rfl
 have z1:=aB hb 1;have lb:=aC hb;have e0:w2.cell? ⟨w.heap.size,0,none⟩=some (.string (bL [])):=by rw[aA HB2.out];rfl
 have e1:w2.cell? ⟨w.heap.size,1,none⟩=some (.int .i64 0):=by rw[aA HB2.out];rfl
 have y0:=aB HB2.out 0;have y1:=aB HB2.out 1;have HBK:=sH hb;have HSL:=sH hs;have HBB:=sH hB2;clear hb hs hB2;by_cases hk0:k<0
 ·go_wp2_with fail;have h3:=FdB.set HBB.out HBK.out HSL.out true;have HB3:=sH (aF HB2.out (Fr.set1 w2 ⟨b,1,none⟩ (.bool true)) hne);have F3:=FF2.setRow (p:=⟨b,1,none⟩) rfl (.bool true);obtain⟨R0,R1,R2,R3⟩:=oP h3 HB3.out hBw.out hne (.string ⟨#[]⟩) (.int .i64 0);revert R0 R1 R2 R3;generalize hW5:World.setCell _ _ _=w9;intro R0 R1 R2 R3;clear hW5;refine bodyPost_ret (v:=.agg #[.string ⟨#[]⟩,.int .i64 0]) (by simp[results,Tryz.results131,go_sem,R0,R1]) rfl ?_;refine⟨nat,true,rfl,R3,⟨(fun e=>by cases e),fun _=>?_⟩,by constructor<;>decide,F3.new R2 (Nat.le_refl _)⟩;exact yE HX.out (by unfold rdA;rw[if_neg HXX.out,if_pos (by rw[HK.out];exact hk0)])
 have hk1:0≤k:=by omega
 have hk2:k≤((bL X).size:Int):=by omega
 go_wp2_with fail;rw[show(bL X).extract k.toNat X.length=bL (X.drop k.toNat) from by apply ByteArray.ext;apply Array.ext';simp[bL];exact List.take_of_length_le (by simp)];refine(qS (bL (X.drop k.toNat)) w2 (by rw[dB,List.length_drop];omega) hE2).mono ?_;rintro e w3 ⟨n,v,rfl,hv,hwi,F3⟩;rw[fX] at hv;have hbk:=aF HBK.out F3 (by simp);have hsl:=HSL.out.keep (qR HBB.out F3 fun g e=>by cases e);have hbb:=Nat.le_trans HBB.out F3.size;have hb3:=aF HB2.out F3 (by simp);clear c1 z1 lb e0 e1 y0 y1 HBK HSL HBB HB2 lb2;have c1:w3.cell? ⟨b,1,none⟩=some (.bool (bad||L.isEmpty)):=by rw[aA hbk];rfl
 have z1:=aB hbk 1;have lb:=aC hbk;have e0:w3.cell? ⟨w.heap.size,0,none⟩=some (.string (bL [])):=by rw[aA hb3];rfl
 have e1:w3.cell? ⟨w.heap.size,1,none⟩=some (.int .i64 0):=by rw[aA hb3];rfl
 have y0:=aB hb3 0;have y1:=aB hb3 1;have lb3:=aC hb3;have FF3:=FF2.pure F3;have HBK:=sH hbk;have HSL:=sH hsl;have HBB:=sH hbb;have HB2:=sH hb3;have HWI:=sH hwi;clear hbk hsl hbb hb3 hwi F3 FF2 hE2;have hex:(bL X).extract 0 k.toNat=bL (X.take k.toNat):=by apply ByteArray.ext;apply Array.ext';simp[bL]
 have hrd:Hid (rdA X=match rdN (X.drop k.toNat) with|some n=>some ⟨X.take k.toNat,n⟩|none=>none):=by
  unfold Hid;unfold rdA;rw[if_neg HXX.out,HK.out,if_neg (show ¬k<0 by omega)];rfl
 cases hbd:(bad||L.isEmpty) with
 |true=>
  rw[hbd] at c1;have HBD:=sH hbd;clear hbd;go_wp2_with fail;have h3:=FdB.set HBB.out HBK.out HSL.out true;have HB3:=sH (aF HB2.out (Fr.set1 w3 ⟨b,1,none⟩ (.bool true)) hne);have F3:=FF3.setRow (p:=⟨b,1,none⟩) rfl (.bool true);obtain⟨R0,R1,R2,R3⟩:=oP h3 HB3.out hBw.out hne (.string (bL (X.take k.toNat))) (.int .i64 n);revert R0 R1 R2 R3;generalize hW5:World.setCell _ _ _=w9;intro R0 R1 R2 R3;clear hW5;refine bodyPost_ret (v:=.agg #[.string (bL (X.take k.toNat)),.int .i64 n]) (by simp[results,Tryz.results131,go_sem,R0,R1]) rfl ?_;refine⟨⟨X.take k.toNat,n⟩,true,rfl,R3,⟨(fun e=>by cases e),fun _=>?_⟩,HWI.out,F3.new R2 (Nat.le_refl _)⟩;have:=HBD.out;cases L with
  |nil=>exact .inr rfl
  |cons x r=>exact .inl (by simpa using this)
 |false=>
  rw[hbd] at c1;have HBD:=sH hbd;clear hbd;rcases hv with⟨m,hm,rfl,rfl⟩|⟨hm,t,p,rfl⟩
  ·have HM:=sH hm;clear hm;go_wp2_with fail;have h3:=FdB.set HBB.out HBK.out HSL.out false;have HB3:=sH (aF HB2.out (Fr.set1 w3 ⟨b,1,none⟩ (.bool false)) hne);have F3:=FF3.setRow (p:=⟨b,1,none⟩) rfl (.bool false);obtain⟨R0,R1,R2,R3⟩:=oP h3 HB3.out hBw.out hne (.string (bL (X.take k.toNat))) (.int .i64 n);revert R0 R1 R2 R3;generalize hW5:World.setCell _ _ _=w9;intro R0 R1 R2 R3;clear hW5;refine bodyPost_ret (v:=.agg #[.string (bL (X.take k.toNat)),.int .i64 n]) (by simp[results,Tryz.results131,go_sem,R0,R1]) rfl ?_;refine⟨⟨X.take k.toNat,n⟩,false,rfl,R3,⟨fun _=>?_,fun e=>by cases e⟩,HWI.out,F3.new R2 (Nat.le_refl _)⟩;refine Bo HBD.out HX.out ?_;rw[hrd.out,HM.out]
  have HM:=sH hm;clear hm;go_wp2_with fail;have h3:=FdB.set HBB.out HBK.out HSL.out true;have HB3:=sH (aF HB2.out (Fr.set1 w3 ⟨b,1,none⟩ (.bool true)) hne);have F3:=FF3.setRow (p:=⟨b,1,none⟩) rfl (.bool true);obtain⟨R0,R1,R2,R3⟩:=oP h3 HB3.out hBw.out hne (.string (bL (X.take k.toNat))) (.int .i64 n);revert R0 R1 R2 R3;generalize hW5:World.setCell _ _ _=w9;intro R0 R1 R2 R3;clear hW5;refine bodyPost_ret (v:=.agg #[.string (bL (X.take k.toNat)),.int .i64 n]) (by simp[results,Tryz.results131,go_sem,R0,R1]) rfl ?_;refine⟨⟨X.take k.toNat,n⟩,true,rfl,R3,⟨(fun e=>by cases e),fun _=>?_⟩,HWI.out,F3.new R2 (Nat.le_refl _)⟩;refine yE HX.out ?_;rw[hrd.out,HM.out]
theorem oQ(sep:ByteArray):∀(k:Nat) (s:ByteArray) (x:ByteArray),x ∈ Lib.splitB sep 0 k s→x.data.toList.length≤s.data.toList.length∧∀b ∈ x.data.toList,b ∈ s.data.toList
 |0,s,x,hx=>by
  rw[Lib.splitB_zero] at hx;obtain rfl:=List.mem_singleton.1 hx;exact⟨Nat.le_refl _,fun _ h=>h⟩
 |k+1,s,x,hx=>by
  unfold Lib.splitB at hx;split at hx
  ·obtain rfl:=List.mem_singleton.1 hx;exact⟨Nat.le_refl _,fun _ h=>h⟩
  rcases List.mem_cons.1 hx with rfl|hx
  ·rw[Lib.extract_data];exact⟨by rw[List.length_take,List.length_drop];omega,fun b hb=>List.mem_of_mem_drop (List.mem_of_mem_take hb)⟩
  obtain⟨h1,h2⟩:=oQ sep k _ x hx;rw[Lib.extract_data] at h1 h2;exact⟨by rw[List.length_take,List.length_drop] at h1;omega,fun b hb=>List.mem_of_mem_drop (List.mem_of_mem_take (h2 b hb))⟩
theorem lM{c:UInt8}{v x:List UInt8}(h:x ∈ eO c v):x.length≤v.length∧∀b ∈ x,b ∈ v:=by
 unfold eO at h;obtain⟨y,hy,rfl⟩:=List.mem_map.1 h;exact oQ _ _ _ y hy
theorem uQ(c:UInt8)(v:List UInt8):(eO c v).length=Lib.countB (bL v) ⟨#[c]⟩+1:=by
 unfold eO;rw[List.length_map,Lib.splitB_all ⟨#[c]⟩ (Nat.le_refl 1) 0 _ _ rfl]
theorem sS(c:UInt8)(v:List UInt8):(eO c v).length≤v.length+1:=by
 rw[uQ];have:=Lib.countB_le ⟨#[c]⟩ (Nat.le_refl 1) (bL v).size (bL v) (Nat.le_refl _);rw[dB] at this;omega
def Mxl(w:World):Prop:=∃m:Int,w.cell? ⟨0,0,none⟩=some (.int .i64 m)
theorem Mxl.frs{r:Option Nat}{w w':World}(h:Mxl w)(f:Fr r w w')(h1:r≠some 0):Mxl w':=by
 obtain⟨m,hm⟩:=h;exact⟨m,f.keep hm (fun e=>h1 e.symm)⟩
theorem mI(c:UInt8)(v:List UInt8)(w:World)(hM:Mxl w)(hv:v.length≤1000000):Calls Tryz.prog 68 #[.string (bL v),.string ⟨#[c]⟩] w fun e w'=>∃A n k,e= .returned (.slice A n k)∧n=(eO c v).length∧SlD w' (fun b=>w.heap.size≤b∧b<w'.heap.size) 1 (.slice A n k) ((eO c v).map fun x=>Value.string (bL x))∧Fr none w w':=by
 obtain⟨m,hm⟩:=hM;refine(Tryz.strings_Split (bL v) ⟨#[c]⟩ m w (by rw[dB];omega) hm (Nat.le_refl 1)).mono ?_;rintro e w' ⟨rfl,rfl⟩;have hle:=sS c v;have hln:=uQ c v;refine⟨_,_,_,rfl,hln.symm,?_,(Fr.refl none w).alloc _⟩;have he:(eO c v).map (fun x=>Value.string (bL x))=(Lib.splitB ⟨#[c]⟩ 0 (Lib.countB (bL v) ⟨#[c]⟩) (bL v)).map Value.string:=by
  unfold eO;rw[List.map_map];apply List.map_congr_left;intro x _;show Value.string (bL x.data.toList)=_;rw[←GG]
 rw[he];refine⟨_,_,_,rfl,?_,Nat.le_refl _,by unfold maxLen;omega,fun _=>⟨w.heap.size,0,rfl,⟨Nat.le_refl _,aC (aD w _)⟩,fun j u hu=>?_⟩⟩
 ·rw[←he,List.length_map,hln];omega
 rw[aA (aD w _)];simpa using hu
def opL(o:Opr)(v:Value):List Value:=[.int .i64 o.kind,.int .i64 o.to_,.int .i64 o.amt,.int .i64 o.lim,.string (bL o.ast.code),.int .i64 o.ast.iss,.string (bL o.oth.code),.int .i64 o.oth.iss,.int .i64 o.num,.int .i64 o.den,.int .i64 o.id,v]
def OpW(o:Opr):Prop:=Wi o.kind∧Wi o.to_∧Wi o.amt∧Wi o.lim∧Wi o.ast.iss∧Wi o.oth.iss∧Wi o.num∧Wi o.den∧Wi o.id
def OpB(w:World)(b:Nat)(o:Opr)(v:Value):Prop:=w.heap[b]?=some (.cells (opL o v).toArray 49 (0,0))
theorem OpB.fr{r:Option Nat}{w w':World}{b:Nat}{o:Opr}{v:Value}(h:OpB w b o v)(F:Fr r w w')(hr:r≠some b:=by simp):OpB w' b o v:=aF h F hr
theorem OpB.kind{w:World}{b:Nat}{o:Opr}{v:Value}(h:OpB w b o v)(n:Int):OpB (w.setCell ⟨b,0,none⟩ (.int .i64 n)) b {o with kind:=n} v:=aI h 0 _
theorem OpB.to_{w:World}{b:Nat}{o:Opr}{v:Value}(h:OpB w b o v)(n:Int):OpB (w.setCell ⟨b,1,none⟩ (.int .i64 n)) b {o with to_:=n} v:=aI h 1 _
theorem OpB.amt{w:World}{b:Nat}{o:Opr}{v:Value}(h:OpB w b o v)(n:Int):OpB (w.setCell ⟨b,2,none⟩ (.int .i64 n)) b {o with amt:=n} v:=aI h 2 _
theorem OpB.lim{w:World}{b:Nat}{o:Opr}{v:Value}(h:OpB w b o v)(n:Int):OpB (w.setCell ⟨b,3,none⟩ (.int .i64 n)) b {o with lim:=n} v:=aI h 3 _
theorem OpB.ast{w:World}{b:Nat}{o:Opr}{v:Value}(h:OpB w b o v)(a:Ast):OpB ((w.setCell ⟨b,4,none⟩ (.string (bL a.code))).setCell ⟨b,5,none⟩ (.int .i64 a.iss)) b {o with ast:=a} v:=by
 have:=aI (aI h 4 (.string (bL a.code))) 5 (.int .i64 a.iss);exact this
theorem OpB.oth{w:World}{b:Nat}{o:Opr}{v:Value}(h:OpB w b o v)(a:Ast):OpB ((w.setCell ⟨b,6,none⟩ (.string (bL a.code))).setCell ⟨b,7,none⟩ (.int .i64 a.iss)) b {o with oth:=a} v:=by
 have:=aI (aI h 6 (.string (bL a.code))) 7 (.int .i64 a.iss);exact this
theorem OpB.num{w:World}{b:Nat}{o:Opr}{v:Value}(h:OpB w b o v)(n:Int):OpB (w.setCell ⟨b,8,none⟩ (.int .i64 n)) b {o with num:=n} v:=aI h 8 _
theorem OpB.den{w:World}{b:Nat}{o:Opr}{v:Value}(h:OpB w b o v)(n:Int):OpB (w.setCell ⟨b,9,none⟩ (.int .i64 n)) b {o with den:=n} v:=aI h 9 _
theorem OpB.id{w:World}{b:Nat}{o:Opr}{v:Value}(h:OpB w b o v)(n:Int):OpB (w.setCell ⟨b,10,none⟩ (.int .i64 n)) b {o with id:=n} v:=aI h 10 _
theorem OpB.path{w:World}{b:Nat}{o:Opr}{v:Value}(h:OpB w b o v)(l:List Ast)(u:Value):OpB (w.setCell ⟨b,11,none⟩ u) b {o with path:=l} u:=aI h 11 _
theorem OpB.cell{w:World}{b:Nat}{o:Opr}{v:Value}(h:OpB w b o v)(k:Nat):w.cell? ⟨b,k,none⟩=(opL o v)[k]?:=by
 rw[aA h,List.getElem?_toArray]
theorem OpB.free{w:World}{b:Nat}{o:Opr}{v:Value}(h:OpB w b o v)(k:Nat):w.frozen? ⟨b,k,none⟩=false:=aB h k
theorem OpB.lt{w:World}{b:Nat}{o:Opr}{v:Value}(h:OpB w b o v):b<w.heap.size:=aC h
def GI(L:List (List UInt8))(bad:Bool)(a:Ast)(bad':Bool):Prop:=(bad'=false→bad=false∧fdA L=some a)∧(bad'=true→bad=true∨fdA L=none)
def GJ(R:List (List UInt8))(b:Bool)(l:List Ast)(R':List (List UInt8))(b':Bool):Prop:=(b'=false→b=false∧uI R=(uI R').map (l++ ·))∧(b'=true→b=true∨uI R=none)
theorem GJ.zero(R:List (List UInt8))(b:Bool):GJ R b [] R b:=⟨fun h=>⟨h,by cases uI R<;>simp⟩,fun h=>.inl h⟩
theorem GK{v:List UInt8}{L:List (List UInt8)}{b1 b2 b3:Bool}{n1:Int}{n2:Int}{n3:Ast}(hL:L=eO 44 v)(h1:wS (L.drop 0) false n1 b1)(h2:wS (L.drop 1) b1 n2 b2)(h3:GI (L.drop 2) b2 n3 b3):(b3=false→L.drop 3=[]→rdO (112::v)=some {op0 with kind:=2,to_:=n1,amt:=n2,ast:=n3})∧(b3=true∨L.drop 3≠[]→rdO (112::v)=none):=by
 subst hL;rw[List.drop_zero] at h1;unfold rdO;dsimp only;rw[if_neg (by decide),if_pos rfl];constructor
 ·intro hb hD;obtain⟨e3,g3⟩:=h3.1 hb;obtain⟨e2,g2⟩:=h2.1 e3;obtain⟨e1,g1⟩:=h1.1 e2;rw[g1,g2,g3,hD];rfl
 intro hb;rcases hb with hb|hb
 ·rcases h3.2 hb with hb|hb
  ·rcases h2.2 hb with hb|hb
   ·rcases h1.2 hb with hb|hb
    ·cases hb
    split
    ·simp_all
    rfl
   split
   ·simp_all
   rfl
  split
  ·simp_all
  rfl
 split
 ·rename_i hX;exact absurd (of_decide_eq_true hX) hb
 rfl
def SlN{α:Type}(R:Rec α)(B:Nat)(w:World)(v:Value)(l:List α):Prop:=SlD w (Dn B w) R.sz v (flR R l)∧∀a ∈ l,R.ok a
theorem SlN.nil{α:Type}(R:Rec α)(B:Nat)(w:World):SlN R B w (.slice none 0 0) []:=⟨SlD.nil _ _ _,by simp⟩
theorem SlN.fr{α:Type}{R:Rec α}{B:Nat}{r:Option Nat}{w w':World}{v:Value}{l:List α}(h:SlN R B w v l)(f:Fr r w w')(hr:∀g,r=some g→g<B:=by simp):SlN R B w' v l:=⟨h.1.keep (nD f hr),h.2⟩
theorem SlN.mono{α:Type}{R:Rec α}{B B':Nat}{w:World}{v:Value}{l:List α}(h:SlN R B w v l)(hB:B'≤B):SlN R B' w v l:=⟨h.1.keep (dH hB),h.2⟩
theorem SlN.sl{α:Type}{R:Rec α}{B:Nat}{w:World}{v:Value}{l:List α}(h:SlN R B w v l)(r:Option Nat)(hr:∀g,r=some g→g<B):SlR R w r v l:=⟨h.1.keep (qL hr),h.2⟩
theorem SlN.of_own{α:Type}{R:Rec α}{w:World}{base:Nat}{e:TypeId}{v:Value}{n:Nat}{l:List α}(h:w.ownsRow base e R.sz v n (flR R l))(hw:∀c ∈ l,R.ok c):SlN R base w v l:=⟨SlD.own_dn h,hw⟩
structure OpX where
 o:Opr
 A:Option Addr
 c:Nat
def OpX.v(x:OpX):Value:=.slice x.A x.o.path.length x.c
structure TxX where
 src:Int
 seq:Int
 fee:Int
 ops:List OpX
 A:Option Addr
 c:Nat
def TxX.v(t:TxX):Value:=.slice t.A t.ops.length t.c
def TxX.pl(t:TxX):Txn:=⟨t.src,t.seq,t.fee,t.ops.map (·.o)⟩
theorem sU(o:Opr)(A:Option Addr)(n c:Nat):∀u ∈ opL o (.slice A n c),u.oneCell'=true:=fun u hu=>by
 unfold opL at hu;simp only[List.mem_cons,List.not_mem_nil,or_false] at hu;rcases hu with rfl|rfl|rfl|rfl|rfl|rfl|rfl|rfl|rfl|rfl|rfl|rfl<;>rfl
def opR:Rec OpX:=⟨12,fun x=>opL x.o x.v,fun x=>OpW x.o,fun _=>rfl,fun x=>sU x.o x.A _ x.c,by decide⟩
def txC(t:TxX):List Value:=[.int .i64 t.src,.int .i64 t.seq,.int .i64 t.fee,t.v]
def TxW(t:TxX):Prop:=Wi t.src∧Wi t.seq∧Wi t.fee
def txR:Rec TxX:=⟨4,txC,TxW,fun _=>rfl,fun x u hu=>by
 unfold txC at hu;simp only[List.mem_cons,List.not_mem_nil,or_false] at hu;rcases hu with rfl|rfl|rfl|rfl<;>rfl,by decide⟩
def OpD(w:World)(r:Option Nat)(x:OpX):Prop:=SlR cB w r x.v x.o.path
def TxD(w:World)(r:Option Nat)(t:TxX):Prop:=SlR opR w r t.v t.ops∧∀x ∈ t.ops,OpD w r x
def SlT(w:World)(r:Option Nat)(v:Value)(l:List TxX):Prop:=SlR txR w r v l∧∀t ∈ l,TxD w r t
def plT(l:List TxX):List Txn:=l.map TxX.pl
theorem OpD.fr{r:Option Nat}{w w':World}{x:OpX}(h:OpD w r x)(f:Fr r w w'):OpD w' r x:=SlR.fr h f
theorem TxD.fr{r:Option Nat}{w w':World}{t:TxX}(h:TxD w r t)(f:Fr r w w'):TxD w' r t:=⟨h.1.fr f,fun x hx=>(h.2 x hx).fr f⟩
theorem SlT.fr{r:Option Nat}{w w':World}{v:Value}{l:List TxX}(h:SlT w r v l)(f:Fr r w w'):SlT w' r v l:=⟨h.1.fr f,fun t ht=>(h.2 t ht).fr f⟩
theorem OpD.weak{r:Option Nat}{w:World}{x:OpX}(h:OpD w r x):OpD w none x:=SlR.weak h
theorem TxD.weak{r:Option Nat}{w:World}{t:TxX}(h:TxD w r t):TxD w none t:=⟨h.1.weak,fun x hx=>(h.2 x hx).weak⟩
theorem SlT.weak{r:Option Nat}{w:World}{v:Value}{l:List TxX}(h:SlT w r v l):SlT w none v l:=⟨h.1.weak,fun t ht=>(h.2 t ht).weak⟩
theorem OpD.fresh{w w':World}{g:Nat}{x:OpX}(h:OpD w none x)(f:Fr none w w')(hg:w.heap.size≤g):OpD w' (some g) x:=SlR.fresh h f hg
theorem TxD.fresh{w w':World}{g:Nat}{t:TxX}(h:TxD w none t)(f:Fr none w w')(hg:w.heap.size≤g):TxD w' (some g) t:=⟨h.1.fresh f hg,fun x hx=>(h.2 x hx).fresh f hg⟩
theorem SlT.fresh{w w':World}{g:Nat}{v:Value}{l:List TxX}(h:SlT w none v l)(f:Fr none w w')(hg:w.heap.size≤g):SlT w' (some g) v l:=⟨h.1.fresh f hg,fun t ht=>(h.2 t ht).fresh f hg⟩
theorem SlT.nil(w:World)(r:Option Nat):SlT w r (.slice none 0 0) []:=⟨SlR.nil _ _ _,by simp⟩
theorem oS{r:Option Nat}{w:World}{v:Value}{l:List OpX}(h:SlR opR w r v l):
  ∃A c,v= .slice A l.length c∧l.length≤c∧c≤9223372036854775807∧(0<l.length→∃b off,A=some ⟨b,off,none⟩∧b<w.heap.size∧some b≠r∧∀k (hk:k<l.length),∀j u,(opL l[k].o l[k].v)[j]?=some u→w.cell? ⟨b,off+k*12+j,none⟩=some u):=by
 obtain⟨A,c,h1,h2,h3,h4⟩:=h.open_;refine⟨A,c,h1,h2,h3,fun hn=>?_⟩;obtain⟨b,off,e,h5,h6,hx⟩:=h4 hn;exact⟨b,off,e,h5,h6,fun k hk j u hu=>hx k hk j u hu⟩
theorem iO{r:Option Nat}{w:World}{v:Value}{l:List TxX}(h:SlR txR w r v l):
  ∃A c,v= .slice A l.length c∧l.length≤c∧c≤9223372036854775807∧(0<l.length→∃b off,A=some ⟨b,off,none⟩∧b<w.heap.size∧some b≠r∧∀k (hk:k<l.length),w.cell? ⟨b,off+k*4,none⟩=some (.int .i64 l[k].src)∧w.cell? ⟨b,off+k*4+1,none⟩=some (.int .i64 l[k].seq)∧w.cell? ⟨b,off+k*4+2,none⟩=some (.int .i64 l[k].fee)∧w.cell? ⟨b,off+k*4+3,none⟩=some l[k].v):=by
 obtain⟨A,c,h1,h2,h3,h4⟩:=h.open_;refine⟨A,c,h1,h2,h3,fun hn=>?_⟩;obtain⟨b,off,e,h5,h6,hx⟩:=h4 hn;exact⟨b,off,e,h5,h6,fun k hk=>⟨hx k hk 0 _ rfl,hx k hk 1 _ rfl,hx k hk 2 _ rfl,hx k hk 3 _ rfl⟩⟩
theorem OpB.cells{w:World}{b:Nat}{o:Opr}{v:Value}(h:OpB w b o v):w.cell? ⟨b,0,none⟩=some (.int .i64 o.kind)∧w.cell? ⟨b,1,none⟩=some (.int .i64 o.to_)∧w.cell? ⟨b,2,none⟩=some (.int .i64 o.amt)∧w.cell? ⟨b,3,none⟩=some (.int .i64 o.lim)∧w.cell? ⟨b,4,none⟩=some (.string (bL o.ast.code))∧w.cell? ⟨b,5,none⟩=some (.int .i64 o.ast.iss)∧w.cell? ⟨b,6,none⟩=some (.string (bL o.oth.code))∧w.cell? ⟨b,7,none⟩=some (.int .i64 o.oth.iss)∧w.cell? ⟨b,8,none⟩=some (.int .i64 o.num)∧w.cell? ⟨b,9,none⟩=some (.int .i64 o.den)∧w.cell? ⟨b,10,none⟩=some (.int .i64 o.id)∧w.cell? ⟨b,11,none⟩=some v:=
 ⟨h.cell 0,h.cell 1,h.cell 2,h.cell 3,h.cell 4,h.cell 5,h.cell 6,h.cell 7,h.cell 8,h.cell 9,h.cell 10,h.cell 11⟩
theorem fS{w:World}{b:Nat}{o:Opr}{v:Value}(h:OpB w b o v)(o':Opr)(v':Value)(w':World)(hw:w'=(((((((((((w.setCell ⟨b,0,none⟩ (.int .i64 o'.kind)).setCell ⟨b,1,none⟩ (.int .i64 o'.to_)).setCell ⟨b,2,none⟩ (.int .i64 o'.amt)).setCell ⟨b,3,none⟩ (.int .i64 o'.lim)).setCell ⟨b,4,none⟩ (.string (bL o'.ast.code))).setCell ⟨b,5,none⟩ (.int .i64 o'.ast.iss)).setCell ⟨b,6,none⟩ (.string (bL o'.oth.code))).setCell ⟨b,7,none⟩ (.int .i64 o'.oth.iss)).setCell ⟨b,8,none⟩ (.int .i64 o'.num)).setCell ⟨b,9,none⟩ (.int .i64 o'.den)).setCell ⟨b,10,none⟩ (.int .i64 o'.id)).setCell ⟨b,11,none⟩ v'):OpB w' b o' v'∧Fr (some b) w w':=by
 have k1:=h.kind o'.kind;try dsimp only at k1
 have k2:=k1.to_ o'.to_;try dsimp only at k2
 have k3:=k2.amt o'.amt;try dsimp only at k3
 have k4:=k3.lim o'.lim;try dsimp only at k4
 have k5:=k4.ast o'.ast;try dsimp only at k5
 have k6:=k5.oth o'.oth;try dsimp only at k6
 have k7:=k6.num o'.num;try dsimp only at k7
 have k8:=k7.den o'.den;try dsimp only at k8
 have k9:=k8.id o'.id;try dsimp only at k9
 have k10:=k9.path o'.path v';try dsimp only at k10
 have F0:Fr (some b) w _:=Fr.set1 w ⟨b,0,none⟩ (.int .i64 o'.kind);have F1:Fr (some b) w _:=F0.setRow (p:=⟨b,1,none⟩) rfl (.int .i64 o'.to_);have F2:Fr (some b) w _:=F1.setRow (p:=⟨b,2,none⟩) rfl (.int .i64 o'.amt);have F3:Fr (some b) w _:=F2.setRow (p:=⟨b,3,none⟩) rfl (.int .i64 o'.lim);have F4:Fr (some b) w _:=F3.setRow (p:=⟨b,4,none⟩) rfl (.string (bL o'.ast.code));have F5:Fr (some b) w _:=F4.setRow (p:=⟨b,5,none⟩) rfl (.int .i64 o'.ast.iss);have F6:Fr (some b) w _:=F5.setRow (p:=⟨b,6,none⟩) rfl (.string (bL o'.oth.code));have F7:Fr (some b) w _:=F6.setRow (p:=⟨b,7,none⟩) rfl (.int .i64 o'.oth.iss);have F8:Fr (some b) w _:=F7.setRow (p:=⟨b,8,none⟩) rfl (.int .i64 o'.num);have F9:Fr (some b) w _:=F8.setRow (p:=⟨b,9,none⟩) rfl (.int .i64 o'.den);have F10:Fr (some b) w _:=F9.setRow (p:=⟨b,10,none⟩) rfl (.int .i64 o'.id);have F11:Fr (some b) w _:=F10.setRow (p:=⟨b,11,none⟩) rfl (v');subst hw;exact⟨k10,F11⟩
theorem OpB.frees{w:World}{b:Nat}{o:Opr}{v:Value}(h:OpB w b o v):∀k,w.frozen? ⟨b,k,none⟩=false:=fun k=>h.free k
theorem zM{w4 w:World}{b:Nat}{o:Opr}{v:Value}(h:OpB w4 b o v)(F:Fr none w4 w)(o':Opr)(v':Value)(w':World)(hw:w'=(((((((((((w.setCell ⟨b,0,none⟩ (.int .i64 o'.kind)).setCell ⟨b,1,none⟩ (.int .i64 o'.to_)).setCell ⟨b,2,none⟩ (.int .i64 o'.amt)).setCell ⟨b,3,none⟩ (.int .i64 o'.lim)).setCell ⟨b,4,none⟩ (.string (bL o'.ast.code))).setCell ⟨b,5,none⟩ (.int .i64 o'.ast.iss)).setCell ⟨b,6,none⟩ (.string (bL o'.oth.code))).setCell ⟨b,7,none⟩ (.int .i64 o'.oth.iss)).setCell ⟨b,8,none⟩ (.int .i64 o'.num)).setCell ⟨b,9,none⟩ (.int .i64 o'.den)).setCell ⟨b,10,none⟩ (.int .i64 o'.id)).setCell ⟨b,11,none⟩ v'):OpB w' b o' v'∧Fr (some b) w4 w':=by
 obtain⟨R,G⟩:=fS (h.fr F) o' v' w' hw;exact⟨R,F.mono.same G⟩
def TxB(w:World)(b:Nat)(t:TxX):Prop:=w.heap[b]?=some (.cells (txC t).toArray 34 (0,0))
theorem TxB.fr{r:Option Nat}{w w':World}{b:Nat}{t:TxX}(h:TxB w b t)(F:Fr r w w')(hr:r≠some b:=by simp):TxB w' b t:=aF h F hr
theorem TxB.cell{w:World}{b:Nat}{t:TxX}(h:TxB w b t)(k:Nat):w.cell? ⟨b,k,none⟩=(txC t)[k]?:=by
 rw[aA h,List.getElem?_toArray]
theorem TxB.free{w:World}{b:Nat}{t:TxX}(h:TxB w b t)(k:Nat):w.frozen? ⟨b,k,none⟩=false:=aB h k
theorem TxB.lt{w:World}{b:Nat}{t:TxX}(h:TxB w b t):b<w.heap.size:=aC h
theorem uT{w:World}{b:Nat}{o:Opr}{v:Value}(h:OpB w b o v):OpB w.drew b o v:=h
theorem Bq{w:World}{b:Nat}{o:Opr}{v:Value}(h:OpB w b o v)(o':Opr)(v':Value)(w':World)(hw:w'=((((((((((((w.setCell ⟨b,0,none⟩ (.int .i64 o'.kind)).setCell ⟨b,1,none⟩ (.int .i64 o'.to_)).setCell ⟨b,2,none⟩ (.int .i64 o'.amt)).setCell ⟨b,3,none⟩ (.int .i64 o'.lim)).setCell ⟨b,4,none⟩ (.string (bL o'.ast.code))).setCell ⟨b,5,none⟩ (.int .i64 o'.ast.iss)).setCell ⟨b,6,none⟩ (.string (bL o'.oth.code))).setCell ⟨b,7,none⟩ (.int .i64 o'.oth.iss)).setCell ⟨b,8,none⟩ (.int .i64 o'.num)).setCell ⟨b,9,none⟩ (.int .i64 o'.den)).setCell ⟨b,10,none⟩ (.int .i64 o'.id)).setCell ⟨b,11,none⟩ v').drew):OpB w' b o' v'∧Fr (some b) w w':=by
 obtain⟨R,G⟩:=fS h o' v' _ rfl;rw[hw];exact⟨uT R,G.drew⟩
theorem wi0:Wi (0:Int):=by constructor<;>decide
theorem wi1:Wi (1:Int):=by constructor<;>decide
theorem wi2:Wi (2:Int):=by constructor<;>decide
theorem wi3:Wi (3:Int):=by constructor<;>decide
theorem wi4:Wi (4:Int):=by constructor<;>decide
theorem wi5:Wi (5:Int):=by constructor<;>decide
theorem wi6:Wi (6:Int):=by constructor<;>decide
theorem uU{w:World}{p:Addr}{v:Value}(h:w.cell? p=some v):p.block<w.heap.size:=by
 rcases Nat.lt_or_ge p.block w.heap.size with h'|h'
 ·exact h'
 exfalso;unfold World.cell? at h;rw[Array.getElem?_eq_none h'] at h;cases h
theorem Errs.lt{w:World}(h:Errs w):3<w.heap.size∧4<w.heap.size:=by
 obtain⟨⟨t,p,e1⟩,⟨u,q,e2⟩⟩:=h;exact⟨uU e1,uU e2⟩
theorem GP:cH Tryz.prog 47 46 2 24:=cH.mk_ (z:=.agg #[.string ⟨#[]⟩,.int .i64 0]) (by kernel_rfl) (by kernel_rfl) rfl (by omega)
def RdP(word:List UInt8)(o:Opr)(ok:Bool):Prop:=(ok=true→rdO word=some o)∧(ok=false→rdO word=none)
def RdC(word:List UInt8):Prop:=∀w:World,Errs w→Mxl w→word.length≤1000000→(∀c ∈ word,c.toNat<128)→Calls Tryz.prog 96 #[.string (bL word)] w fun e w'=>∃o A c ok,e= .returned (.tuple #[.agg (opL o (.slice A o.path.length c)).toArray,.bool ok])∧RdP word o ok∧SlN cB w.heap.size w' (.slice A o.path.length c) o.path∧OpW o∧Fr none w w'
def zS(a b:TxX):Int:=orL [fT a.src b.src,fT a.seq b.seq]
theorem Br(a b:TxX):decide (0≤zS a b)= !nQ a.pl b.pl:=by
 unfold zS nQ TxX.pl;simp only[orL,fT];rw[Bool.eq_iff_iff];simp only[decide_eq_true_eq,Bool.not_eq_true',decide_eq_false_iff_not];by_cases h1:a.src<b.src
 ·simp[h1]
 by_cases h2:b.src<a.src
 ·simp[h1,h2];omega
 have h12:a.src=b.src:=by omega
 by_cases h3:a.seq<b.seq
 ·simp[h12,h3]
 by_cases h4:b.seq<a.seq
 ·simp[h12,h3,h4]
 simp[h12,h3,h4]
def txV(t:TxX):Value:=.agg #[.int .i64 t.src,.int .i64 t.seq,.int .i64 t.fee,.slice t.A t.ops.length t.c]
theorem bD{w:World}{b:Nat}{t:TxX}(h:TxB w b t):w.cell? ⟨b,0,none⟩=some (.int .i64 t.src)∧w.cell? ⟨b,1,none⟩=some (.int .i64 t.seq)∧w.cell? ⟨b,2,none⟩=some (.int .i64 t.fee)∧w.cell? ⟨b,3,none⟩=some (.slice t.A t.ops.length t.c):=⟨h.cell 0,h.cell 1,h.cell 2,h.cell 3⟩
theorem Bs(x y:TxX)(w:World):Calls Tryz.prog 73 #[txV x,txV y] w fun e w'=>e= .returned (.int .i64 (zS x y))∧Fr none w w':=by
 obtain⟨C1,hC1⟩:∃C,C=fT x.src y.src:=⟨_,rfl⟩;obtain⟨C2,hC2⟩:∃C,C=fT x.seq y.seq:=⟨_,rfl⟩;have HE:Hid (orL [C1,C2]=zS x y):=by unfold Hid zS;rw[hC1,hC2]
 have HW:Hid (∀n ∈ [C1,C2],Wi n):=by unfold Hid;rw[hC1,hC2];simp[kN]
 have H1:=sH hC1;have H2:=sH hC2;clear hC1 hC2;unfold txV;go_enter Tryz.func73,Tryz.ntmps73;go_upto_region 1 with(fail)
 generalize hW:w.alloc _=wa;have F1:Fr none w wa:=hW▸(Fr.refl none w).alloc _;have b1:TxB wa w.heap.size x:=by rw[←hW];exact aD _ _
 have sa:w.heap.size+1=wa.heap.size:=by rw[←hW];exact(Array.size_push _).symm
 clear hW;generalize hW:wa.alloc _=w1;have F2:Fr none wa w1:=hW▸(Fr.refl none wa).alloc _;have b2:TxB w1 (w.heap.size+1) y:=by rw[←hW,sa];exact aD _ _
 have b1:=b1.fr F2;clear hW sa;have FF:=F1.pure F2;clear F1 F2;refine aL (fun W=>Fr none w1 W) 10 17 [some 14,some 13,some 12,some 11,some 10,some 9,some 8,some 7,some 6,some 5] (by kernel_rfl) (by kernel_rfl) (by kernel_rfl) (Nat.le_refl _) ((Fr.refl _ _).drew) ?_;refine FxL.p [] [2] ?_;have HF1:=sH (fun(w:World) (hS:(fun W=>Fr none w1 W) w)=>And.intro (bD (b1.fr hS)) (bD (b2.fr hS)));refine FxL.q HF1.out [(0,0,5)] [] ?_;refine FxL.p [] [3] ?_;refine FxL.q HF1.out [(0,2,7)] [] ?_;refine FxL.call (v:=?_) (f:=?_) (args:=?_) rfl (fun ev w hS E=>?_) (fun w hS=>?_) ?_;rotate_left 3
 ·obtain⟨c0,c1,c2,c3⟩:=bD (b1.fr hS);obtain⟨d0,d1,d2,d3⟩:=bD (b2.fr hS);obtain⟨t6,t8,ec,ef,eg⟩:=E.get [(2,1,6),(0,3,8)] [] (by kernel_rfl);clear E;simp only[aG] at t6 t8;go_simp;first|(refine And.intro ?_ ?_<;>with_reducible rfl)|with_reducible rfl
 ·obtain⟨c0,c1,c2,c3⟩:=bD (b1.fr hS);obtain⟨d0,d1,d2,d3⟩:=bD (b2.fr hS);refine(dC x.src y.src w).mono ?_;rintro e w2 ⟨rfl,rfl⟩;refine⟨?_,hS⟩;with_reducible rfl
 refine FxL.p [] [2] ?_;refine FxL.q HF1.out [(0,5,10)] [] ?_;refine FxL.p [] [3] ?_;refine FxL.q HF1.out [(0,7,12)] [] ?_;refine FxL.call (v:=?_) (f:=?_) (args:=?_) rfl (fun ev w hS E=>?_) (fun w hS=>?_) ?_;rotate_left 3
 ·obtain⟨c0,c1,c2,c3⟩:=bD (b1.fr hS);obtain⟨d0,d1,d2,d3⟩:=bD (b2.fr hS);obtain⟨t11,t13,ec,ef,eg⟩:=E.get [(2,6,11),(0,8,13)] [] (by kernel_rfl);clear E;simp only[aG] at t11 t13;go_simp;first|(refine And.intro ?_ ?_<;>with_reducible rfl)|with_reducible rfl
 ·obtain⟨c0,c1,c2,c3⟩:=bD (b1.fr hS);obtain⟨d0,d1,d2,d3⟩:=bD (b2.fr hS);refine(dC x.seq y.seq w).mono ?_;rintro e w2 ⟨rfl,rfl⟩;refine⟨?_,hS⟩;with_reducible rfl
 refine FxL.done (fun W hW=>?_);simp only[bF];try simp only[sI]
 try simp only[sK]
 rw[←H1.out,←H2.out];go_wp2_with fail;refine(sW [C1,C2] _ _ none ⟨SlD.lit_dm (r:=none) #[.int .i64 C1,.int .i64 C2] 3 2 1 rfl (by decide) (by simp) (Fr.refl _ _),HW.out⟩).mono ?_;rintro e5 w5 ⟨rfl,rfl⟩;go_wp2;go_ret;exact⟨by rw[HE.out];rfl,FF.pure (hW.alloc _)⟩
end Go.Proofs.YthaggndnfamhjaaGreatDoor
