/- Texts, joined. -/
import Derived.Test.YthaggndnfamhjaaGreatDoorProg
import Derived.Test.YthaggndnfamhjaaGreatDoorJK33
import Derived.Test.YthaggndnfamhjaaGreatDoorJK34
import Derived.Test.YthaggndnfamhjaaGreatDoorJK10
import Derived.Lib.AppendZeros
import Derived.Test.YthaggndnfamhjaaGreatDoorJA

set_option linter.unusedSimpArgs false
set_option linter.unusedVariables false
set_option maxRecDepth 100000
set_option maxHeartbeats 16000000
namespace Go.Proofs.YthaggndnfamhjaaGreatDoor
open Go.RowKit
def NwX(r:(Lgr × Int × Int) × Int)(w:World)(e:Ending)(w':World):Prop:=∃va vl vo,e= .returned (.tuple #[.agg #[.int .i64 r.1.1.num,va,vl,vo,.int .i64 r.1.1.nid,.int .i64 r.1.1.fees,.int .u64 (r.1.1.link:Int)],.int .i64 r.1.2.1,.int .i64 r.1.2.2,.int .i64 r.2])∧OwG w' w.heap.size r.1.1 va vl vo∧Fr none w w'
theorem kH{S:Nat→Prop}{w w':World}{b i:Nat}{u:Value}(h:w.cell? ⟨b,i,none⟩=some u)(hb:b<w.heap.size)(f:FrS S w w')(hs:¬S b):w'.cell? ⟨b,i,none⟩=some u:=by
 have:=f.block b hb hs;unfold World.cell? at h ⊢;simp only at h ⊢;rw[this];exact h
theorem Gx{g:Lgr}{taker:Int}{get give:Ast}{n most:Int}(h:mT g get give n most=0):crs g taker get give n most=(((mS g taker get give n most).g,n - (mS g taker get give n most).want,most - (mS g taker get give n most).left),0):=by
 unfold crs;rw[if_neg (by omega)]
theorem EE{g:Lgr}{taker:Int}{get give:Ast}{n most:Int}(h:mT g get give n most≠0):crs g taker get give n most=((lg0,0,0),mT g get give n most):=by
 unfold crs;rw[if_pos h]
theorem CD(g:Lgr)(va vl vo:Value)(taker:Int)(get give:Ast)(n most:Int)(w:World)(h:LgS w none g va vl vo):Calls Tryz.prog 160 #[.agg #[.int .i64 g.num,va,vl,vo,.int .i64 g.nid,.int .i64 g.fees,.int .u64 (g.link:Int)],.int .i64 taker,.agg #[.string (bL get.code),.int .i64 get.iss],.agg #[.string (bL give.code),.int .i64 give.iss],.int .i64 n,.int .i64 most] w (NwX (crs g taker get give n most) w):=by
 obtain⟨V,hV⟩:∃V,V=crs g taker get give n most:=⟨_,rfl⟩;rw[←hV];have HV:=sH hV;clear hV;obtain⟨E,hE⟩:∃E,E=mT g get give n most:=⟨_,rfl⟩;have HVE:Hid (E≠0→V=((lg0,0,0),E)):=fun hne=>by rw[HV.out,hE];exact EE (by rw[←hE];exact hne)
 have HE:=sH hE;have hE2:=hE;unfold mT at hE2;have HE2:=sH hE2;clear hE hE2;obtain⟨A1,c1,rfl, -, -, -⟩:=aN h.1;obtain⟨A2,c2,rfl, -, -, -⟩:=aU h.2.1;obtain⟨A3,c3,rfl, -, -, -⟩:=bA h.2.2.1;have HG:=sH h;clear h;go_enter Tryz.func160,Tryz.ntmps160;go_upto_region 1 with(fail)
 generalize hW:(((w.alloc _).alloc _).alloc _).alloc _=w1;obtain⟨FA,hlg,hga,hgb,hrb⟩:Fr none w w1∧LgB w1 w.heap.size g (.slice A1 g.accs.length c1) (.slice A2 g.lines.length c2) (.slice A3 g.offers.length c3)∧dK w1 (w.heap.size+1) get∧dK w1 (w.heap.size+2) give∧LgB w1 (w.heap.size+3) lg0 (.slice none 0 0) (.slice none 0 0) (.slice none 0 0):=by rw[←hW];exact jF w _ _ _ _
 clear hW;obtain⟨k0,k1,k2,k3,k4,k5,k6⟩:=hlg.cells;obtain⟨a0,a1⟩:=hga.cells;obtain⟨a2,a3⟩:=hgb.cells;go_wp2_with fail;refine(eJ g _ _ _ w1 (HG.out.fr FA)).mono ?_;rintro e w2 ⟨rfl,F2⟩;clear k0 k1 k2 k3 k4 k5 k6;clear a0 a1 a2 a3;have FA:=FA.pure F2;have hlg:=hlg.fr F2;have hga:=hga.fr F2;have hgb:=hgb.fr F2;have hrb:=hrb.fr F2;clear F2;obtain⟨C,hC⟩:∃C,C=aH g:=⟨_,rfl⟩;have HCC:=sH hC;rw[←hC] at HE2 ⊢;clear hC;obtain⟨k0,k1,k2,k3,k4,k5,k6⟩:=hlg.cells;obtain⟨a0,a1⟩:=hga.cells;obtain⟨a2,a3⟩:=hgb.cells;by_cases h0:C=0
 ·subst h0;have HE2:=sH (HE2.out.trans (if_neg (by simp)));go_upto_region 4 with(fail)
  go_cut [27,28,29,30,31,32,33,34,35,36,37,38,39,40] (fun s27 _ _ _ _ _ _ _ _ _ _ _ _ _ wq=>s27= .bool (!aV get|| !aV give||decide (get=give))∧Fr none w2 wq)
  case first=>
   clear HE2 HV HVE HE HCC;go_wp2_with fail;refine(bT get w2).mono ?_;rintro e w3 ⟨rfl,F3⟩;clear a0 a1 a2 a3 k0 k1 k2 k3 k4 k5 k6;have FB:=F3;have hga:=hga.fr F3;have hgb:=hgb.fr F3;obtain⟨a0,a1⟩:=hga.cells;obtain⟨a2,a3⟩:=hgb.cells;generalize aV get=v1 at*
   cases v1 with
   |false=>
    go_wp2_with fail;go_meet
    exact⟨rfl,FB⟩
   |true=>
    go_wp2_with fail;refine(bT give w3).mono ?_;rintro e w4 ⟨rfl,F4⟩;clear a0 a1 a2 a3;have FB:=FB.pure F4;have hga:=hga.fr F4;have hgb:=hgb.fr F4;obtain⟨a0,a1⟩:=hga.cells;obtain⟨a2,a3⟩:=hgb.cells;generalize aV give=v2 at*
    cases v2 with
    |false=>
     go_wp2_with fail;go_meet
     exact⟨rfl,FB⟩
    |true=>
     by_cases hgg:get=give
     ·subst hgg;go_wp2_with fail;go_meet
      exact⟨by simp,FB⟩
     have HF:Hid ((!true|| !true||decide (get=give))=false):=by unfold Hid;rw[decide_eq_false hgg];rfl
     by_cases q1:get.code=give.code
     ·have e1:(bL get.code).toList=(bL give.code).toList:=by rw[q1]
      have e2:¬get.iss=give.iss:=fun e=>hgg (by cases hh:get;cases hk:give;rw[hh,hk] at q1 e;simp only at q1 e;rw[q1,e]);clear q1 hgg;go_wp2_with fail;go_meet
      exact⟨by rw[HF.out],FB⟩
     have e1:¬(bL get.code).toList=(bL give.code).toList:=fun e=>q1 (by rw[bQ,bQ] at e;exact e);clear q1 hgg;go_wp2_with fail;go_meet
     exact⟨by rw[HF.out],FB⟩
  case rest=>
   obtain⟨rfl,Fq⟩:=hcut;obtain⟨Q,hQ⟩:∃Q,Q=(!aV get|| !aV give||decide (get=give)):=⟨_,rfl⟩;rw[←hQ];have HQ:=sH hQ;clear hQ;clear k0 k1 k2 k3 k4 k5 k6;clear a0 a1 a2 a3;have FA:=FA.pure Fq;have hlg:=hlg.fr Fq;have hga:=hga.fr Fq;have hgb:=hgb.fr Fq;have hrb:=hrb.fr Fq;clear Fq;obtain⟨k0,k1,k2,k3,k4,k5,k6⟩:=hlg.cells;obtain⟨a0,a1⟩:=hga.cells;obtain⟨a2,a3⟩:=hgb.cells;cases Q with
   |true=>
    have he:E=71:=by
     rw[HE2.out,if_pos];have:=HQ.out.symm;simp only[Bool.or_eq_true,Bool.not_eq_true',decide_eq_true_eq] at this;rcases this with(h|h)|h
     ·exact .inl h
     ·exact .inr (.inl h)
     exact .inr (.inr h)
    have HX:=sH (HVE.out (by rw[he];decide));rw[he] at HX;clear he HV HVE HE HE2 HQ;obtain⟨m0,m1,m2,m3,m4,m5,m6,y0,y1,y2,y3,y4,y5,y6,ml⟩:=LgB.zc hrb;go_wp2;refine bodyPost_ret (v:=.tuple #[.agg #[.int .i64 0,.slice none 0 0,.slice none 0 0,.slice none 0 0,.int .i64 0,.int .i64 0,.int .u64 0],.int .i64 0,.int .i64 0,.int .i64 71]) (by simp[results,Tryz.results160,go_sem,m0,m1,m2,m3,m4,m5,m6]) rfl ?_;exact tw2
   |false=>
    have HE2:Hid (E=if aX n=false∨aX most=false then 65 else 0):=by
     unfold Hid;rw[HE2.out,if_neg];have:=HQ.out.symm;simp only[Bool.or_eq_false_iff,Bool.not_eq_false',decide_eq_false_iff_not] at this;obtain⟨⟨h1,h2⟩,h3⟩:=this;rintro(h|h|h)
     ·rw[h1] at h;cases h
     ·rw[h2] at h;cases h
     exact h3 h
    clear HQ;obtain⟨wq,hwq⟩:∃W:World,Fr none w W:=⟨_,FA⟩;clear hwq wq;go_wp2_with fail;refine(cJ n _).mono ?_;rintro e w3 ⟨rfl,rfl⟩;generalize aX n=x1 at*
    cases x1 with
    |false=>
     have he:=HE2.out.trans (if_pos (.inl rfl));have HX:=sH (HVE.out (by rw[he];decide));rw[he] at HX;clear he HV HVE HE HE2;obtain⟨m0,m1,m2,m3,m4,m5,m6,y0,y1,y2,y3,y4,y5,y6,ml⟩:=LgB.zc hrb;go_wp2;refine bodyPost_ret (v:=.tuple #[.agg #[.int .i64 0,.slice none 0 0,.slice none 0 0,.slice none 0 0,.int .i64 0,.int .i64 0,.int .u64 0],.int .i64 0,.int .i64 0,.int .i64 65]) (by simp[results,Tryz.results160,go_sem,m0,m1,m2,m3,m4,m5,m6]) rfl ?_;exact tw2
    |true=>
     go_wp2_with fail;refine(cJ most _).mono ?_;rintro e w3 ⟨rfl,rfl⟩;generalize aX most=x2 at*
     cases x2 with
     |false=>
      have he:=HE2.out.trans (if_pos (.inr rfl));have HX:=sH (HVE.out (by rw[he];decide));rw[he] at HX;clear he HV HVE HE HE2;obtain⟨m0,m1,m2,m3,m4,m5,m6,y0,y1,y2,y3,y4,y5,y6,ml⟩:=LgB.zc hrb;go_wp2;refine bodyPost_ret (v:=.tuple #[.agg #[.int .i64 0,.slice none 0 0,.slice none 0 0,.slice none 0 0,.int .i64 0,.int .i64 0,.int .u64 0],.int .i64 0,.int .i64 0,.int .i64 65]) (by simp[results,Tryz.results160,go_sem,m0,m1,m2,m3,m4,m5,m6]) rfl ?_;exact tw2
     |true=>
      have he:=HE2.out.trans (if_neg (by simp));have HE0:Hid (mT g get give n most=0):=by unfold Hid;rw[←HE.out,he]
      have HX:Hid (V=(((mS g taker get give n most).g,n - (mS g taker get give n most).want,most - (mS g taker get give n most).left),0)):=by unfold Hid;rw[HV.out];exact Gx HE0.out
      have HDO:=sH (tN (taker:=taker) HE0.out);obtain⟨DF,hDF⟩:∃D,D=mS g taker get give n most:=⟨_,rfl⟩;rw[←hDF] at HX HDO;have HDF:=sH hDF;clear hDF he HV HVE HE HE2;obtain⟨z1,z2,z3,z4,z5,z6⟩:=tM HE0.out;obtain⟨g1,g2, -, -, -⟩:=aS.1 z1;obtain⟨l1,l2, -, -⟩:=bJ.1 g1;obtain⟨y1, -, -⟩:=bI.1 l1;have HZ1:=sH z1;have HZ5:=sH z5;have HZ6:=sH z6;have HB1:=sH (mU (sg:=get) (by_:=give) z1);clear z1 z2 z3 z4 z5 z6 g1 l1;go_wp2_with fail;refine(mY g _ _ _ w3 (HG.out.fr FA) (by omega) (by omega) (by omega)).mono ?_;rintro e w4 ⟨va',vl',vo',rfl,og,F4⟩;obtain⟨A4,c4,rfl⟩:=aO og.a;obtain⟨A5,c5,rfl⟩:=aO og.l;obtain⟨A6,c6,rfl⟩:=aO og.o;have HSZ:Hid (w.heap.size≤w3.heap.size):=FA.size;have HBL:=sH (aC hrb);clear k0 k1 k2 k3 k4 k5 k6;clear a0 a1 a2 a3;have F4s:=sH F4.size;have FA:=FA.pure F4;have hlg:=hlg.fr F4;have hga:=hga.fr F4;have hgb:=hgb.fr F4;have hrb:=hrb.fr F4;clear F4;have HOG:=sH og;clear og;go_upto_region 9 with(fail)
      generalize hW:w4.alloc _=w5;have F5:Fr none w4 w5:=hW▸(Fr.refl none w4).alloc _;have hdb:DlB w5 w4.heap.size ⟨g,n,most⟩ (.slice A4 g.accs.length c4) (.slice A5 g.lines.length c5) (.slice A6 g.offers.length c6):=by rw[←hW];exact aD _ _
      clear hW;have HNB:Hid ((Value.slice A4 g.accs.length c4).ownBlock≠some w4.heap.size∧(Value.slice A5 g.lines.length c5).ownBlock≠some w4.heap.size∧(Value.slice A6 g.offers.length c6).ownBlock≠some w4.heap.size):=⟨fun e=>by have:=bR HOG.out.a e;omega,fun e=>by have:=bR HOG.out.l e;omega,fun e=>by have:=bR HOG.out.o e;omega⟩;have HOG4:=HOG;have HOG:=sH (HOG.out.fr F5);have HSB:Hid (w3.heap.size≤w4.heap.size):=F4s.out;have hdb0:=sH (aC hdb);have FA:=FA.pure F5;have hlg:=hlg.fr F5;have hga:=hga.fr F5;have hgb:=hgb.fr F5;have hrb:=hrb.fr F5;clear F5;obtain⟨k0,k1,k2,k3,k4,k5,k6⟩:=hlg.cells;obtain⟨a0,a1⟩:=hga.cells;obtain⟨a2,a3⟩:=hgb.cells;go_wp2_with fail;refine(AP g _ _ _ get give w5 (HG.out.fr FA) HZ1.out).mono ?_;rintro e w6 ⟨A7,c7,rfl,hbk,F6⟩;clear k0 k1 k2 k3 k4 k5 k6;clear a0 a1 a2 a3;have hs56:=F6.size;have hdb:=hdb.fr F6;have HOG:=sH (HOG.out.fr F6);have FA:=FA.pure F6;have hlg:=hlg.fr F6;have hga:=hga.fr F6;have hgb:=hgb.fr F6;have hrb:=hrb.fr F6;clear F6;obtain⟨bd,hbd⟩:∃bd,bd=w4.heap.size:=⟨_,rfl⟩;rw[←hbd] at hdb HNB ⊢;have HBDE:=sH hbd;have hs45:bd<w5.heap.size:=by have:=hdb0.out;omega
      clear hbd;have HBK:=sH hbk;obtain⟨B,hB⟩:∃B,B=lC g get give:=⟨_,rfl⟩;rw[←hB] at HBK HB1 ⊢;have HBE:=sH hB;have hqc:=hbk.le;rw[←hB] at hqc;have hqm:=hbk.cap;clear hbk hB;have HA6:Hid (∀x,(Value.slice A6 g.offers.length c6).ownBlock=some x→w3.heap.size≤x∧x<bd):=fun x e=>by
       have h1:=bR HOG4.out.o e;have:=HBDE.out;omega
      have HNS3:Hid (¬(w.heap.size+3=bd∨(Value.slice A6 g.offers.length c6).ownBlock=some (w.heap.size+3))):=by
       have h1:=HBL.out;have h2:=HSB.out;have h3:=HBDE.out;rintro(h|h)
       ·omega
       have:=HA6.out _ h;omega
      have HNSA:Hid (∀x,x<w.heap.size→¬(x=bd∨(Value.slice A6 g.offers.length c6).ownBlock=some x)):=fun x hx h=>by
       have h1:=HSZ.out;have h2:=HSB.out;have h3:=HBDE.out;rcases h with h|h
       ·omega
       have:=HA6.out _ h;omega
      have HNBD:Hid (some (w.heap.size+3)≠some bd):=fun e=>HNS3.out (.inl (by injection e));have HCR:Hid (jD taker B ⟨g,n,most⟩=DF):=by unfold Hid;rw[HDF.out,HBE.out];rfl
      have HDK:Hid (eV ⟨g,n,most⟩):=⟨HZ1.out,HZ5.out,HZ6.out⟩;have HBO:Hid (∀o ∈ B,o.id ∈ g.offers.map (·.id)):=fun o ho=>List.mem_map_of_mem (HB1.out.2 o ho).1;go_wp2_with fail;go_loopw [63] (fun s63 wr=>∃(k:Nat) (d:dD) (va vl vo:Value),k≤B.length∧s63= .int .i64 (k:Int)∧Hid (eV d)∧Hid (d.g.link<18446744073709551616∧jD taker (B.drop k) d=DF∧∀o ∈ B.drop k,o.id ∈ d.g.offers.map (·.id))∧DlB wr bd d va vl vo∧Hid (OwG wr w3.heap.size d.g va vl vo∧(va.ownBlock≠some bd∧vl.ownBlock≠some bd∧vo.ownBlock≠some bd)∧∀x,vo.ownBlock=some x→(Value.slice A6 g.offers.length c6).ownBlock=some x∨w6.heap.size≤x)∧FrS (fun x=>x=bd∨(Value.slice A6 g.offers.length c6).ownBlock=some x) w6 wr) (fun s63 _=>B.length - (intOf s63).toNat)
      case atStart=>exact⟨0,⟨g,n,most⟩,_,_,_,Nat.zero_le _,rfl,HDK,⟨HG.out.ok.2.2.2.2.2.2,HCR.out,HBO.out⟩,hdb,⟨HOG.out,HNB.out,fun x e=>.inl e⟩,FrS.of (Fr.refl none _) (by simp)⟩
      case round=>
       clear hdb;obtain⟨k,d,va2,vl2,vo2,hk,rfl,HDD,HLC,hdb,HOD,FS⟩:=hrel;obtain⟨wz,hwz⟩:∃wz:World,wz=wr:=⟨_,rfl⟩;subst hwz;by_cases hlt:k<B.length
       ·obtain⟨bk,rfl,hk1,hk2,hcell⟩:=HBK.out.at_ (by omega);have hcs:∀i u,(flR ofR B)[i]?=some u→wz.cell? ⟨bk,i,none⟩=some u:=fun i u hu=>kH (hcell i u hu) hk2 FS (by
         rintro(h|h)
         ·have:=HBDE.out;omega
         have:=HA6.out _ h;omega)
        have HC9:=sH hcs;have hxe:B.drop k=B[k]::B.drop (k+1):=List.drop_eq_getElem_cons hlt;obtain⟨x,hx⟩:∃x,x=B[k]:=⟨_,rfl⟩;have e0:wz.cell? ⟨bk,k*9,none⟩=some (.int .i64 x.id):=by rw[hx];exact hcs _ _ ((bU ofR B k hlt 0 (by decide)).trans rfl)
        have e1:wz.cell? ⟨bk,k*9+1,none⟩=some (.int .i64 x.sel):=by rw[hx];exact hcs _ _ ((bU ofR B k hlt 1 (by decide)).trans rfl)
        have e2:wz.cell? ⟨bk,k*9+2,none⟩=some (.string (bL x.sg.code)):=by rw[hx];exact hcs _ _ ((bU ofR B k hlt 2 (by decide)).trans rfl)
        have e3:wz.cell? ⟨bk,k*9+3,none⟩=some (.int .i64 x.sg.iss):=by rw[hx];exact hcs _ _ ((bU ofR B k hlt 3 (by decide)).trans rfl)
        have e4:wz.cell? ⟨bk,k*9+4,none⟩=some (.string (bL x.by_.code)):=by rw[hx];exact hcs _ _ ((bU ofR B k hlt 4 (by decide)).trans rfl)
        have e5:wz.cell? ⟨bk,k*9+5,none⟩=some (.int .i64 x.by_.iss):=by rw[hx];exact hcs _ _ ((bU ofR B k hlt 5 (by decide)).trans rfl)
        have e6:wz.cell? ⟨bk,k*9+6,none⟩=some (.int .i64 x.amt):=by rw[hx];exact hcs _ _ ((bU ofR B k hlt 6 (by decide)).trans rfl)
        have e7:wz.cell? ⟨bk,k*9+7,none⟩=some (.int .i64 x.num):=by rw[hx];exact hcs _ _ ((bU ofR B k hlt 7 (by decide)).trans rfl)
        have e8:wz.cell? ⟨bk,k*9+8,none⟩=some (.int .i64 x.den):=by rw[hx];exact hcs _ _ ((bU ofR B k hlt 8 (by decide)).trans rfl)
        have hmem:∀o ∈ B.drop (k+1),o ∈ B.drop k:=fun o ho=>by rw[hxe];exact List.mem_cons_of_mem _ ho
        have hxi:x.id ∈ d.g.offers.map (·.id):=HLC.out.2.2 x (by rw[hxe,hx];exact List.mem_cons_self ..);have hcr:=HLC.out.2.1;rw[hxe,←hx] at hcr;have hndx:∀o ∈ B.drop (k+1),o.id≠x.id:=fun o ho e=>by
         have hnd:=HB1.out.1;obtain⟨j,hj,rfl⟩:=List.getElem_of_mem ho;rw[List.getElem_drop,hx] at e;have hj2:k+1+j<B.length:=by rw[List.length_drop] at hj;omega
         have h1:=(List.pairwise_iff_getElem.1 hnd) k (k+1+j) (by simpa using hlt) (by simpa using hj2) (by omega);simp only[List.getElem_map] at h1;exact h1 e.symm
        have HCRX:=sH hcr;have HMM:=sH hmem;have HXI:=sH hxi;have HND:=sH hndx;clear hcs hcell hxe hx hcr hmem hxi hndx;have hkB:(k:Int)<(B.length:Int):=by omega
        go_upto_region 12 with(fail)
        generalize hW:wz.alloc _=wa;have Fa:Fr none wz wa:=hW▸(Fr.refl none wz).alloc _;have b7:OfB wa wz.heap.size x:=by rw[←hW];exact aD _ _
        clear hW e0 e1 e2 e3 e4 e5 e6 e7 e8;have FS:=FS.add Fa (by simp);have hdb:=hdb.fr Fa;have HOD1:=sH (HOD.out.1.fr Fa);have hsza:w6.heap.size≤wa.heap.size:=FS.size;clear Fa;obtain⟨n0,n1,n2,n3,n4,n5,n6,n7,n8⟩:=b7.cells;have l7:=aC b7;by_cases hxs:x.sel=taker
        ·have hd:(x.sel !=taker)=false:=by simp[hxs]
         have hcr2:jD taker (B.drop (k+1)) d=DF:=by have:=HCRX.out;unfold jD at this;rwa [if_pos hxs] at this
         have HCR2:=sH hcr2;clear hxs hcr2;go_wp2_with fail;go_roundw
         case rel=>exact⟨k+1,d,_,_,_,hlt,by go_num,HDD,⟨HLC.out.1,HCR2.out,fun o ho=>HLC.out.2.2 o (HMM.out o ho)⟩,hdb,⟨HOD1.out,HOD.out.2⟩,FS⟩
         case measure=>simp[intOf];omega
        have hd:(x.sel !=taker)=true:=by simp[hxs]
        have hcr2:(if(gT d x.id).2=true then jD taker (B.drop (k+1)) (gT d x.id).1 else(gT d x.id).1)=DF:=by have:=HCRX.out;unfold jD at this;rwa [if_neg hxs] at this
        have HCR2:=sH hcr2;have HUK:=sH (mR HDD.out HXI.out);obtain⟨_,_,_,_,_,_,_,_,_,_,_,_,_,_,hdok⟩:=gE HDD.out HXI.out;have HDOK:=sH hdok;clear hxs hcr2 hdok;go_wp2_with fail;refine(CC d bd w3.heap.size va2 vl2 vo2 x.id wa HDD.out HXI.out HLC.out.1 hdb HOD1.out HOD.out.2.1 (by have:=HSB.out;have:=HBDE.out;omega)).mono ?_;rintro e w8 ⟨va3,vl3,vo3,rfl,hdb3,og3,ne3,vc3,FS3⟩;have FS:=FS.trans FS3 (fun y hy h=>by
         rcases h with h|h
         ·exact .inl h
         rcases HOD.out.2.2 y h with h2|h2
         ·exact .inr h2
         omega)
        have HOD:=sH (And.intro og3 (And.intro ne3 (show ∀y,vo3.ownBlock=some y→(Value.slice A6 g.offers.length c6).ownBlock=some y∨w6.heap.size≤y from fun y hy=>by
         rcases vc3 y hy with h|h
         ·exact HOD.out.2.2 y h
         exact .inr (by omega))))
        clear n0 n1 n2 n3 n4 n5 n6 n7 n8 l7 b7 hdb og3 ne3 vc3 FS3 HOD1;have hdb:=hdb3;have HLK3:Hid ((gT d x.id).1.g.link<18446744073709551616):=by unfold Hid;rw[HUK.out.1.2.2.2.1];exact HLC.out.1
        have HIN:Hid (∀o ∈ B.drop (k+1),o.id ∈ (gT d x.id).1.g.offers.map (·.id)):=fun o ho=>HUK.out.2 _ (HLC.out.2.2 o (HMM.out o ho)) (HND.out o ho);clear HUK hdb3 HLC HMM HND HCRX HXI HDD;generalize gT d x.id=RD at*
        obtain⟨d',bo⟩:=RD;cases bo with
        |true=>
         have HCR3:Hid (jD taker (B.drop (k+1)) d'=DF):=HCR2.out;go_wp2_with fail;go_roundw
         case rel=>exact⟨k+1,d',_,_,_,hlt,by go_num,HDOK,⟨HLK3.out,HCR3.out,HIN.out⟩,hdb,HOD,FS⟩
         case measure=>simp[intOf];omega
        |false=>
         have hdf:d'=DF:=HCR2.out;clear HCR2 HIN HLK3;have HDD:Hid (eV d'):=HDOK;obtain⟨d0,hd0⟩:∃d0:dD,d0=d:=⟨_,rfl⟩;clear hd0 d0;have HFD:=sH hdf;clear hdf;obtain⟨A8,c8,rfl⟩:=aO HOD.out.1.a;obtain⟨A9,c9,rfl⟩:=aO HOD.out.1.l;obtain⟨A10,c10,rfl⟩:=aO HOD.out.1.o;have hw1:IntKind.i64.wrap (n - d'.want)=n - d'.want:=gY (by have:=HZ5.out;have:=HDD.out.2.1;omega) (by have:=HZ5.out;have:=HDD.out.2.1;omega);have hw2:IntKind.i64.wrap (most - d'.left)=most - d'.left:=gY (by have:=HZ6.out;have:=HDD.out.2.2;omega) (by have:=HZ6.out;have:=HDD.out.2.2;omega);have hrb9:LgB w8 (w.heap.size+3) lg0 (.slice none 0 0) (.slice none 0 0) (.slice none 0 0):=gB hrb FS HNS3.out;have FAE:Fr none w w8:=FrS.own FA FS HNSA.out;go_upto_region 14 with(fail)
         refine cF (fun W=>DlB W bd d' (.slice A8 d'.g.accs.length c8) (.slice A9 d'.g.lines.length c9) (.slice A10 d'.g.offers.length c10)) (fun W=>Fr none w8 W) [16] [0,1,2,3,4,5,6,7,8,9,10,11,12,13,14,15,16,17,18,19] 95 [some 15,some 14,some 13,none,some 94,some 93,some 92,some 91,some 90,some 89,some 88,some 87,some 86,some 85,some 84,some 83,some 82,some 81,some 80,some 79] (by kernel_rfl) (by kernel_rfl) (by kernel_rfl) (Nat.le_refl _) (show(fun W=>Fr none w8 W) _ from(Fr.refl _ _).drew) (fun W h=>(by first|exact hdb.fr h|exact h.1)) ?_;refine FxP.p [] [17] ?_;refine FxP.p [(0,0,79)] [] ?_;refine FxP.p [(0,1,80)] [] ?_;have HF1:=sH (fun(w:World) (hS:((fun W=>DlB W bd d' (.slice A8 d'.g.accs.length c8) (.slice A9 d'.g.lines.length c9) (.slice A10 d'.g.offers.length c10))) w)=>hS.cells);refine FxP.q HF1.out [(0,2,81)] [] ?_;refine FxP.p [] [4] ?_;refine FxP.p [] [17] ?_;refine FxP.p [(0,5,84)] [] ?_;refine FxP.p [(0,6,85)] [] ?_;refine FxP.q HF1.out [(0,7,86)] [] ?_;refine FxP.p [(4,4,83),(0,8,87)] [] ?_;refine FxP.p [] [5] ?_;refine FxP.p [] [17] ?_;refine FxP.p [(0,11,90)] [] ?_;refine FxP.p [(0,12,91)] [] ?_;refine FxP.q HF1.out [(0,13,92)] [] ?_;refine FxP.p [(4,10,89),(0,14,93)] [] ?_;refine FxP.store (S':=(fun W=>DlB W bd d' (.slice A8 d'.g.accs.length c8) (.slice A9 d'.g.lines.length c9) (.slice A10 d'.g.offers.length c10)∧Fr (some (w.heap.size+3)) w8 W∧LgB W (w.heap.size+3) d'.g (.slice A8 d'.g.accs.length c8) (.slice A9 d'.g.lines.length c9) (.slice A10 d'.g.offers.length c10))) rfl rfl rfl (by kernel_rfl) (fun ev w hS E=>?_) (fR.stay (fun W h=>(by first|exact hdb.fr h|exact h.1))) ?_
         ·obtain⟨m0,m1,m2,m3,m4,m5,m6,y0,y1,y2,y3,y4,y5,y6,ml⟩:=LgB.zc (hrb9.fr hS);obtain⟨t82,t12,ec,ef,eg⟩:=E.get [(12,3,82)] [12] (by kernel_rfl);clear E;simp only[aG] at t82;refine⟨?_,?_,?_⟩;rotate_left
          ·go_simp;try with_reducible rfl
          exact⟨(hdb.fr hS).fr (aW (hrb9.fr hS)).1 HNBD.out,hS.mono.same (aW (hrb9.fr hS)).1,(aW (hrb9.fr hS)).2⟩
         refine FxP.p [(7,9,88)] [] ?_;refine FxP.p [(2,15,94)] [] ?_;refine FxP.p [] [] ?_;refine FxP.done (fun W hW=>?_);simp only[bF];try simp only[sI]
         clear hw1 hw2;obtain⟨_,F9,hr9⟩:=hW;obtain⟨m0,m1,m2,m3,m4,m5,m6⟩:=hr9.cells;have HOF:=sH (HOD.out.1.fr F9 (fun x e=>by have e:some (w.heap.size+3)=some x:=e;injection e with e;have:=HBL.out;omega));have FAE:=FAE.own F9;clear F9 hr9;go_wp2;refine bodyPost_ret (v:=.tuple #[.agg #[.int .i64 d'.g.num,.slice A8 d'.g.accs.length c8,.slice A9 d'.g.lines.length c9,.slice A10 d'.g.offers.length c10,.int .i64 d'.g.nid,.int .i64 d'.g.fees,.int .u64 (d'.g.link:Int)],.int .i64 (n - d'.want),.int .i64 (most - d'.left),.int .i64 0]) (by simp[results,Tryz.results160,go_sem,m0,m1,m2,m3,m4,m5,m6]) rfl ?_;exact⟨_,_,_,by rw[HX.out,←HFD.out],by rw[HX.out,←HFD.out];exact HOF.out.base HSZ.out,FAE⟩
       obtain rfl:k=B.length:=by omega
       have hdf:d=DF:=by have:=HLC.out.2.1;rw[List.drop_length] at this;exact this
       go_wp2_with fail;have HFD:=sH hdf;clear hdf;obtain⟨A8,c8,rfl⟩:=aO HOD.out.1.a;obtain⟨A9,c9,rfl⟩:=aO HOD.out.1.l;obtain⟨A10,c10,rfl⟩:=aO HOD.out.1.o;have hw1:IntKind.i64.wrap (n - d.want)=n - d.want:=gY (by have:=HZ5.out;have:=HDD.out.2.1;omega) (by have:=HZ5.out;have:=HDD.out.2.1;omega);have hw2:IntKind.i64.wrap (most - d.left)=most - d.left:=gY (by have:=HZ6.out;have:=HDD.out.2.2;omega) (by have:=HZ6.out;have:=HDD.out.2.2;omega);have hrb9:LgB wz (w.heap.size+3) lg0 (.slice none 0 0) (.slice none 0 0) (.slice none 0 0):=gB hrb FS HNS3.out;have FAE:Fr none w wz:=FrS.own FA FS HNSA.out;go_upto_region 14 with(fail)
       refine cF (fun W=>DlB W bd d (.slice A8 d.g.accs.length c8) (.slice A9 d.g.lines.length c9) (.slice A10 d.g.offers.length c10)) (fun W=>Fr none wz W) [16] [0,1,2,3,4,5,6,7,8,9,10,11,12,13,14,15,16,17,18,19] 95 [some 15,some 14,some 13,none,some 94,some 93,some 92,some 91,some 90,some 89,some 88,some 87,some 86,some 85,some 84,some 83,some 82,some 81,some 80,some 79] (by kernel_rfl) (by kernel_rfl) (by kernel_rfl) (Nat.le_refl _) (show(fun W=>Fr none wz W) _ from(Fr.refl _ _).drew) (fun W h=>(by first|exact hdb.fr h|exact h.1)) ?_;refine FxP.p [] [17] ?_;refine FxP.p [(0,0,79)] [] ?_;refine FxP.p [(0,1,80)] [] ?_;have HF2:=sH (fun(w:World) (hS:((fun W=>DlB W bd d (.slice A8 d.g.accs.length c8) (.slice A9 d.g.lines.length c9) (.slice A10 d.g.offers.length c10))) w)=>hS.cells);refine FxP.q HF2.out [(0,2,81)] [] ?_;refine FxP.p [] [4] ?_;refine FxP.p [] [17] ?_;refine FxP.p [(0,5,84)] [] ?_;refine FxP.p [(0,6,85)] [] ?_;refine FxP.q HF2.out [(0,7,86)] [] ?_;refine FxP.p [(4,4,83),(0,8,87)] [] ?_;refine FxP.p [] [5] ?_;refine FxP.p [] [17] ?_;refine FxP.p [(0,11,90)] [] ?_;refine FxP.p [(0,12,91)] [] ?_;refine FxP.q HF2.out [(0,13,92)] [] ?_;refine FxP.p [(4,10,89),(0,14,93)] [] ?_;refine FxP.store (S':=(fun W=>DlB W bd d (.slice A8 d.g.accs.length c8) (.slice A9 d.g.lines.length c9) (.slice A10 d.g.offers.length c10)∧Fr (some (w.heap.size+3)) wz W∧LgB W (w.heap.size+3) d.g (.slice A8 d.g.accs.length c8) (.slice A9 d.g.lines.length c9) (.slice A10 d.g.offers.length c10))) rfl rfl rfl (by kernel_rfl) (fun ev w hS E=>?_) (fR.stay (fun W h=>(by first|exact hdb.fr h|exact h.1))) ?_
       ·obtain⟨m0,m1,m2,m3,m4,m5,m6,y0,y1,y2,y3,y4,y5,y6,ml⟩:=LgB.zc (hrb9.fr hS);obtain⟨t82,t12,ec,ef,eg⟩:=E.get [(12,3,82)] [12] (by kernel_rfl);clear E;simp only[aG] at t82;refine⟨?_,?_,?_⟩;rotate_left
        ·go_simp;try with_reducible rfl
        exact⟨(hdb.fr hS).fr (aW (hrb9.fr hS)).1 HNBD.out,hS.mono.same (aW (hrb9.fr hS)).1,(aW (hrb9.fr hS)).2⟩
       refine FxP.p [(7,9,88)] [] ?_;refine FxP.p [(2,15,94)] [] ?_;refine FxP.p [] [] ?_;refine FxP.done (fun W hW=>?_);simp only[bF];try simp only[sI]
       clear hw1 hw2;obtain⟨_,F9,hr9⟩:=hW;obtain⟨m0,m1,m2,m3,m4,m5,m6⟩:=hr9.cells;have HOF:=sH (HOD.out.1.fr F9 (fun x e=>by have e:some (w.heap.size+3)=some x:=e;injection e with e;have:=HBL.out;omega));have FAE:=FAE.own F9;clear F9 hr9;go_wp2;refine bodyPost_ret (v:=.tuple #[.agg #[.int .i64 d.g.num,.slice A8 d.g.accs.length c8,.slice A9 d.g.lines.length c9,.slice A10 d.g.offers.length c10,.int .i64 d.g.nid,.int .i64 d.g.fees,.int .u64 (d.g.link:Int)],.int .i64 (n - d.want),.int .i64 (most - d.left),.int .i64 0]) (by simp[results,Tryz.results160,go_sem,m0,m1,m2,m3,m4,m5,m6]) rfl ?_;exact⟨_,_,_,by rw[HX.out,←HFD.out],by rw[HX.out,←HFD.out];exact HOF.out.base HSZ.out,FAE⟩
 have he:=HE2.out.trans (if_pos h0);have HX:=sH (HVE.out (by rw[he];exact h0));rw[he] at HX;have hq:(C !=0)=true:=by simp[h0]
 clear h0 he HV HVE HE HE2;obtain⟨m0,m1,m2,m3,m4,m5,m6,y0,y1,y2,y3,y4,y5,y6,ml⟩:=LgB.zc hrb;go_wp2;refine bodyPost_ret (v:=.tuple #[.agg #[.int .i64 0,.slice none 0 0,.slice none 0 0,.slice none 0 0,.int .i64 0,.int .i64 0,.int .u64 0],.int .i64 0,.int .i64 0,.int .i64 C]) (by simp[results,Tryz.results160,go_sem,m0,m1,m2,m3,m4,m5,m6]) rfl ?_;exact tw2
theorem AQ(n:Int)(w:World):Calls Tryz.prog 111 #[.int .i64 n] w fun e w'=>e= .returned (.bool (dW n))∧w'=w:=by
 by_cases h1:0<n
 ·have HX:Hid (dW n=aX n):=by unfold Hid dW;rw[decide_eq_true h1];rfl
  go_enter Tryz.func111,Tryz.ntmps111;go_wp2_with fail;refine(cJ n w).mono ?_;rintro e w' ⟨rfl,rfl⟩;go_wp2;go_ret;exact⟨cZ HX.out.symm,rfl⟩
 have HX:Hid (dW n=false):=by unfold Hid dW;rw[decide_eq_false h1];rfl
 go_enter Tryz.func111,Tryz.ntmps111;go_wp2;go_ret;exact⟨cZ HX.out.symm,rfl⟩
theorem pW(g:Lgr)(va vl vo:Value)(acc:Int)(w:World)(h:LgS w none g va vl vo):Calls Tryz.prog 120 #[.agg #[.int .i64 g.num,va,vl,vo,.int .i64 g.nid,.int .i64 g.fees,.int .u64 (g.link:Int)],.int .i64 acc] w fun e w'=>e= .returned (.bool (aK g.accs acc).isSome)∧Fr none w w':=by
 obtain⟨A1,c1,rfl, -, -, -⟩:=aN h.1;obtain⟨A2,c2,rfl, -, -, -⟩:=aU h.2.1;obtain⟨A3,c3,rfl, -, -, -⟩:=bA h.2.2.1;have HG:=sH h;clear h;go_enter Tryz.func120,Tryz.ntmps120;go_upto_region 1 with(fail)
 generalize hW:w.alloc _=w1;have FA:Fr none w w1:=hW▸(Fr.refl none w).alloc _;have hlg:LgB w1 w.heap.size g (.slice A1 g.accs.length c1) (.slice A2 g.lines.length c2) (.slice A3 g.offers.length c3):=by rw[←hW];exact aD _ _
 clear hW;obtain⟨k0,k1,k2,k3,k4,k5,k6⟩:=hlg.cells;have kl:=aC hlg;go_wp2_with fail;refine(gW g.accs _ acc w1 (HG.out.1.fr FA)).mono ?_;rintro e w2 ⟨rfl,F2⟩;have hfs:=dY g.accs acc;generalize dR g.accs acc=R at*
 obtain⟨⟨f1,f2,f3⟩,FB⟩:=R;have HFB:Hid (FB=(aK g.accs acc).isSome):=hfs;clear hfs;go_wp2;go_ret;exact⟨aJ (by rw[←HFB.out]),FA.pure (F2.alloc _)⟩
theorem wF(g:Lgr)(va vl vo:Value)(frm:Int)(give:Ast)(paid to_:Int)(get:Ast)(n:Int)(w:World)(h:LgS w none g va vl vo)(hc:aH g=0):Calls Tryz.prog 112 #[.agg #[.int .i64 g.num,va,vl,vo,.int .i64 g.nid,.int .i64 g.fees,.int .u64 (g.link:Int)],.int .i64 frm,.agg #[.string (bL give.code),.int .i64 give.iss],.int .i64 paid,.int .i64 to_,.agg #[.string (bL get.code),.int .i64 get.iss],.int .i64 n] w (Cs (mov g frm give paid to_ get n) w):=by
 obtain⟨V,hV⟩:∃V,V=mov g frm give paid to_ get n:=⟨_,rfl⟩;rw[←hV];unfold mov at hV;have HV:=sH hV;clear hV;have HCK:Hid ((dbt g frm give paid).2=0→aH (dbt g frm give paid).1=0∧(dbt g frm give paid).1.link=g.link):=fun e=>⟨tJ hc e,(mC e).2.2.2.1⟩;have hgl:g.offers.length≤1000000:=Nat.le_trans (aS.1 hc).2.1 (by decide);clear hc;obtain⟨A1,c1,rfl, -, -, -⟩:=aN h.1;obtain⟨A2,c2,rfl, -, -, -⟩:=aU h.2.1;obtain⟨A3,c3,rfl, -, -, -⟩:=bA h.2.2.1;have HG:=sH h;clear h;go_enter Tryz.func112,Tryz.ntmps112;go_upto_region 1 with(fail)
 generalize hW:(((w.alloc _).alloc _).alloc _).alloc _=w1;obtain⟨FA,hlg,hga,hgb,hrb⟩:Fr none w w1∧LgB w1 w.heap.size g (.slice A1 g.accs.length c1) (.slice A2 g.lines.length c2) (.slice A3 g.offers.length c3)∧dK w1 (w.heap.size+1) give∧dK w1 (w.heap.size+2) get∧LgB w1 (w.heap.size+3) lg0 (.slice none 0 0) (.slice none 0 0) (.slice none 0 0):=by rw[←hW];exact jF w _ _ _ _
 clear hW;have HBL1:=sH (aC hrb);have HSZ1:Hid (w.heap.size≤w1.heap.size):=FA.size;obtain⟨k0,k1,k2,k3,k4,k5,k6⟩:=hlg.cells;obtain⟨a0,a1⟩:=hga.cells;obtain⟨a2,a3⟩:=hgb.cells;go_wp2_with fail;refine(vZ g _ _ _ frm give paid w1 (HG.out.fr FA) hgl).mono ?_;rintro e w2 ⟨va1,vl1,vo1,rfl,og1,F2⟩;generalize dbt g frm give paid=D at*
 obtain⟨r1,e1⟩:=D;obtain⟨A4,c4,rfl⟩:=aO og1.a;obtain⟨A5,c5,rfl⟩:=aO og1.l;obtain⟨A6,c6,rfl⟩:=aO og1.o;clear k0 k1 k2 k3 k4 k5 k6;clear a0 a1 a2 a3;have FA:=FA.pure F2;have hlg:=hlg.fr F2;have hga:=hga.fr F2;have hgb:=hgb.fr F2;have hrb:=hrb.fr F2;clear F2;obtain⟨k0,k1,k2,k3,k4,k5,k6⟩:=hlg.cells;have z0:=aB hlg 0;have z1:=aB hlg 1;have z2:=aB hlg 2;have z3:=aB hlg 3;have z4:=aB hlg 4;have z5:=aB hlg 5;have z6:=aB hlg 6;have zl:=aC hlg;go_upto_region 2 with(fail)
 generalize hW:(((((((w2.setCell ⟨w.heap.size,0,none⟩ (.int .i64 (r1).num)).setCell ⟨w.heap.size,1,none⟩ (.slice A4 r1.accs.length c4)).setCell ⟨w.heap.size,2,none⟩ (.slice A5 r1.lines.length c5)).setCell ⟨w.heap.size,3,none⟩ (.slice A6 r1.offers.length c6)).setCell ⟨w.heap.size,4,none⟩ (.int .i64 (r1).nid)).setCell ⟨w.heap.size,5,none⟩ (.int .i64 (r1).fees)).setCell ⟨w.heap.size,6,none⟩ (.int .u64 ((r1).link:Int)))=w3;obtain⟨F3,hb3⟩:Fr (some w.heap.size) w2 w3∧LgB w3 w.heap.size r1 (.slice A4 r1.accs.length c4) (.slice A5 r1.lines.length c5) (.slice A6 r1.offers.length c6):=by rw[←hW];exact aW hlg
 clear hW;have FA:=FA.own F3;have hga:=hga.fr F3;have hgb:=hgb.fr F3;have hrb:=hrb.fr F3;have HO1:=sH (og1.fr F3 (fun x e=>by have e:some w.heap.size=some x:=e;injection e with e;have:=HBL1.out;omega));clear k0 k1 k2 k3 k4 k5 k6;clear z0 z1 z2 z3 z4 z5 z6 zl;clear hlg og1 F3;have hlg:=hb3;clear hb3;by_cases h1:e1=0
 ·subst h1;have HV:Hid (V=if(crd r1 to_ get n).2≠0 then(lg0,(crd r1 to_ get n).2) else crd r1 to_ get n):=HV.out.trans (if_neg (by simp));obtain⟨hc1,hl1⟩:=HCK.out rfl;have HOK1:=sH (jG hc1 (by rw[hl1];exact HG.out.ok.2.2.2.2.2.2));have hrl:r1.offers.length≤1000000:=Nat.le_trans (aS.1 hc1).2.1 (by decide);clear hc1 hl1;obtain⟨k0,k1,k2,k3,k4,k5,k6⟩:=hlg.cells;obtain⟨a0,a1⟩:=hga.cells;obtain⟨a2,a3⟩:=hgb.cells;go_wp2_with fail;refine(vY r1 _ _ _ to_ get n w3 (HO1.out.lgs HOK1.out) hrl).mono ?_;rintro e w4 ⟨va2,vl2,vo2,rfl,og2,F4⟩;generalize crd r1 to_ get n=D at*
  obtain⟨r2,e2⟩:=D;obtain⟨A7,c7,rfl⟩:=aO og2.a;obtain⟨A8,c8,rfl⟩:=aO og2.l;obtain⟨A9,c9,rfl⟩:=aO og2.o;have HSZ:Hid (w.heap.size≤w3.heap.size):=FA.size;have HBL:=sH (aC hrb);clear k0 k1 k2 k3 k4 k5 k6;clear a0 a1 a2 a3;have FA:=FA.pure F4;have hlg:=hlg.fr F4;have hga:=hga.fr F4;have hgb:=hgb.fr F4;have hrb:=hrb.fr F4;clear F4;obtain⟨k0,k1,k2,k3,k4,k5,k6⟩:=hlg.cells;have z0:=aB hlg 0;have z1:=aB hlg 1;have z2:=aB hlg 2;have z3:=aB hlg 3;have z4:=aB hlg 4;have z5:=aB hlg 5;have z6:=aB hlg 6;have zl:=aC hlg;go_upto_region 5 with(fail)
  generalize hW:(((((((w4.setCell ⟨w.heap.size,0,none⟩ (.int .i64 (r2).num)).setCell ⟨w.heap.size,1,none⟩ (.slice A7 r2.accs.length c7)).setCell ⟨w.heap.size,2,none⟩ (.slice A8 r2.lines.length c8)).setCell ⟨w.heap.size,3,none⟩ (.slice A9 r2.offers.length c9)).setCell ⟨w.heap.size,4,none⟩ (.int .i64 (r2).nid)).setCell ⟨w.heap.size,5,none⟩ (.int .i64 (r2).fees)).setCell ⟨w.heap.size,6,none⟩ (.int .u64 ((r2).link:Int)))=w5;obtain⟨F3,hb3⟩:Fr (some w.heap.size) w4 w5∧LgB w5 w.heap.size r2 (.slice A7 r2.accs.length c7) (.slice A8 r2.lines.length c8) (.slice A9 r2.offers.length c9):=by rw[←hW];exact aW hlg
  clear hW;have FA:=FA.own F3;have hrb:=hrb.fr F3;have HOG:=sH (og2.fr F3 (fun x e=>by have e:some w.heap.size=some x:=e;injection e with e;have:=HBL.out;omega));clear k0 k1 k2 k3 k4 k5 k6;clear z0 z1 z2 z3 z4 z5 z6 zl;clear hlg og2 F3;have hlg:=hb3;clear hb3;by_cases h2:e2=0
  ·subst h2;have HX:Hid (V=(r2,0)):=HV.out.trans (if_neg (by simp));obtain⟨k0,k1,k2,k3,k4,k5,k6⟩:=hlg.cells;obtain⟨m0,m1,m2,m3,m4,m5,m6,y0,y1,y2,y3,y4,y5,y6,ml⟩:=LgB.zc hrb;go_wp2;refine bodyPost_ret (v:=.tuple #[.agg #[.int .i64 (r2).num,(.slice A7 r2.accs.length c7),(.slice A8 r2.lines.length c8),(.slice A9 r2.offers.length c9),.int .i64 (r2).nid,.int .i64 (r2).fees,.int .u64 ((r2).link:Int)],.int .i64 0]) (by simp[results,Tryz.results112,go_sem,m0,m1,m2,m3,m4,m5,m6]) rfl ?_;have F9:=(aW (g:=r2) (va:=(.slice A7 r2.accs.length c7)) (vl:=(.slice A8 r2.lines.length c8)) (vo:=(.slice A9 r2.offers.length c9)) hrb).1;exact⟨_,_,_,by rw[HX.out]<;>rfl,by rw[HX.out];exact(HOG.out.fr F9 (fun x e=>by have e:some (w.heap.size+3)=some x:=e;injection e with e;have:=HBL.out;omega)).base HSZ.out,FA.own F9⟩
  have HX:Hid (V=(lg0,e2)):=HV.out.trans (if_pos h2);have hq:(e2 !=0)=true:=by simp[h2]
  clear h2;obtain⟨m0,m1,m2,m3,m4,m5,m6,y0,y1,y2,y3,y4,y5,y6,ml⟩:=LgB.zc hrb;go_wp2;refine bodyPost_ret (v:=.tuple #[.agg #[.int .i64 0,.slice none 0 0,.slice none 0 0,.slice none 0 0,.int .i64 0,.int .i64 0,.int .u64 0],.int .i64 e2]) (by simp[results,Tryz.results112,go_sem,m0,m1,m2,m3,m4,m5,m6]) rfl ?_;exact tw2
 have HX:Hid (V=(lg0,e1)):=HV.out.trans (if_pos h1);have hq:(e1 !=0)=true:=by simp[h1]
 clear h1;obtain⟨m0,m1,m2,m3,m4,m5,m6,y0,y1,y2,y3,y4,y5,y6,ml⟩:=LgB.zc hrb;go_wp2;refine bodyPost_ret (v:=.tuple #[.agg #[.int .i64 0,.slice none 0 0,.slice none 0 0,.slice none 0 0,.int .i64 0,.int .i64 0,.int .u64 0],.int .i64 e1]) (by simp[results,Tryz.results112,go_sem,m0,m1,m2,m3,m4,m5,m6]) rfl ?_;exact tw2
theorem CE(g:Lgr)(va vl vo:Value)(frm to_:Int)(a:Ast)(n:Int)(w:World)(h:LgS w none g va vl vo):Calls Tryz.prog 78 #[.agg #[.int .i64 g.num,va,vl,vo,.int .i64 g.nid,.int .i64 g.fees,.int .u64 (g.link:Int)],.int .i64 frm,.int .i64 to_,.agg #[.string (bL a.code),.int .i64 a.iss],.int .i64 n] w (Cs (pay g frm to_ a n) w):=by
 obtain⟨V,hV⟩:∃V,V=pay g frm to_ a n:=⟨_,rfl⟩;rw[←hV];unfold pay at hV;have HV:=sH hV;clear hV;obtain⟨A1,c1,rfl, -, -, -⟩:=aN h.1;obtain⟨A2,c2,rfl, -, -, -⟩:=aU h.2.1;obtain⟨A3,c3,rfl, -, -, -⟩:=bA h.2.2.1;have HG:=sH h;clear h;go_enter Tryz.func78,Tryz.ntmps78;go_upto_region 1 with(fail)
 generalize hW:((w.alloc _).alloc _).alloc _=w1;obtain⟨FA,hlg,hga,hrb⟩:Fr none w w1∧LgB w1 w.heap.size g (.slice A1 g.accs.length c1) (.slice A2 g.lines.length c2) (.slice A3 g.offers.length c3)∧dK w1 (w.heap.size+1) a∧LgB w1 (w.heap.size+2) lg0 (.slice none 0 0) (.slice none 0 0) (.slice none 0 0):=by rw[←hW];exact eS w _ _ _
 clear hW;obtain⟨k0,k1,k2,k3,k4,k5,k6⟩:=hlg.cells;go_wp2_with fail;refine(eJ g _ _ _ w1 (HG.out.fr FA)).mono ?_;rintro e w2 ⟨rfl,F2⟩;clear k0 k1 k2 k3 k4 k5 k6;have FA:=FA.pure F2;have hlg:=hlg.fr F2;have hga:=hga.fr F2;have hrb:=hrb.fr F2;clear F2;obtain⟨C,hC⟩:∃C,C=aH g:=⟨_,rfl⟩;have HCC:=sH hC;rw[←hC] at HV ⊢;clear hC;obtain⟨k0,k1,k2,k3,k4,k5,k6⟩:=hlg.cells;by_cases h0:C=0
 ·subst h0;have HV:=sH (HV.out.trans (if_neg (by simp)));go_wp2_with fail;refine(AQ n w2).mono ?_;rintro e w3 ⟨rfl,rfl⟩;generalize dW n=p at*
  cases p with
  |false=>
   have HX:=sH (HV.out.trans (if_pos rfl));obtain⟨m0,m1,m2,m3,m4,m5,m6,y0,y1,y2,y3,y4,y5,y6,ml⟩:=LgB.zc hrb;go_wp2;refine bodyPost_ret (v:=.tuple #[.agg #[.int .i64 0,.slice none 0 0,.slice none 0 0,.slice none 0 0,.int .i64 0,.int .i64 0,.int .u64 0],.int .i64 65]) (by simp[results,Tryz.results78,go_sem,m0,m1,m2,m3,m4,m5,m6]) rfl ?_;exact tw2
  |true=>
   have HV:=sH (HV.out.trans (if_neg (by simp)));by_cases hf:frm=to_
   ·have HX:=sH (HV.out.trans (if_pos hf));have hd:(frm == to_)=true:=by simp[hf]
    clear hf;obtain⟨m0,m1,m2,m3,m4,m5,m6,y0,y1,y2,y3,y4,y5,y6,ml⟩:=LgB.zc hrb;go_wp2;refine bodyPost_ret (v:=.tuple #[.agg #[.int .i64 0,.slice none 0 0,.slice none 0 0,.slice none 0 0,.int .i64 0,.int .i64 0,.int .u64 0],.int .i64 67]) (by simp[results,Tryz.results78,go_sem,m0,m1,m2,m3,m4,m5,m6]) rfl ?_;exact tw2
   have HX:=sH (HV.out.trans (if_neg hf));have hd:(frm == to_)=false:=by simp[hf]
   clear hf;obtain⟨a0,a1⟩:=hga.cells;go_wp2_with fail;refine(wF g _ _ _ frm a n to_ a n w3 (HG.out.fr FA) HCC.out.symm).mono ?_;rintro e w4 ⟨va1,vl1,vo1,rfl,og1,F4⟩;generalize mov g frm a n to_ a n=D at*
   obtain⟨r1,e1⟩:=D;obtain⟨A4,c4,rfl⟩:=aO og1.a;obtain⟨A5,c5,rfl⟩:=aO og1.l;obtain⟨A6,c6,rfl⟩:=aO og1.o;have HSZ:Hid (w.heap.size≤w3.heap.size):=FA.size;have HBL:=sH (aC hrb);have HOG:=sH og1;clear k0 k1 k2 k3 k4 k5 k6;clear a0 a1 og1;have FA:=FA.pure F4;have hlg:=hlg.fr F4;have hga:=hga.fr F4;have hrb:=hrb.fr F4;clear F4;obtain⟨m0,m1,m2,m3,m4,m5,m6,y0,y1,y2,y3,y4,y5,y6,ml⟩:=LgB.zc hrb;go_wp2;refine bodyPost_ret (v:=.tuple #[.agg #[.int .i64 (r1).num,(.slice A4 r1.accs.length c4),(.slice A5 r1.lines.length c5),(.slice A6 r1.offers.length c6),.int .i64 (r1).nid,.int .i64 (r1).fees,.int .u64 ((r1).link:Int)],.int .i64 e1]) (by simp[results,Tryz.results78,go_sem,m0,m1,m2,m3,m4,m5,m6]) rfl ?_;have F9:=(aW (g:=r1) (va:=(.slice A4 r1.accs.length c4)) (vl:=(.slice A5 r1.lines.length c5)) (vo:=(.slice A6 r1.offers.length c6)) hrb).1;exact⟨_,_,_,by rw[HX.out]<;>rfl,by rw[HX.out];exact(HOG.out.fr F9 (fun x e=>by have e:some (w.heap.size+2)=some x:=e;injection e with e;have:=HBL.out;omega)).base HSZ.out,FA.own F9⟩
 have HX:=sH (HV.out.trans (if_pos h0));have hq:(C !=0)=true:=by simp[h0]
 clear h0;obtain⟨m0,m1,m2,m3,m4,m5,m6,y0,y1,y2,y3,y4,y5,y6,ml⟩:=LgB.zc hrb;go_wp2;refine bodyPost_ret (v:=.tuple #[.agg #[.int .i64 0,.slice none 0 0,.slice none 0 0,.slice none 0 0,.int .i64 0,.int .i64 0,.int .u64 0],.int .i64 C]) (by simp[results,Tryz.results78,go_sem,m0,m1,m2,m3,m4,m5,m6]) rfl ?_;exact tw2
theorem Ib{α β γ δ:Type}{o:Option α}{f:α→β}{g:α→γ}{h:α→δ}{x:β}{y:γ}{z:δ}(e:o.map (fun i=>(f i,g i,h i))=some (x,y,z)):∃i,o=some i∧f i=x∧g i=y∧h i=z:=by
 cases o with
 |none=>cases e
 |some i=>
  simp only[Option.map_some,Option.some.injEq,Prod.mk.injEq] at e;exact⟨i,rfl,e.1,e.2.1,e.2.2⟩
theorem Ic:Tryz.prog.underlying 47=some (.slice 46):=by kernel_rfl
theorem Id:Tryz.prog.underlying 3=some (.int .i64):=by kernel_rfl
theorem Gy:∃i,Tryz.prog.info? 46=some i∧i.zero=some (.agg #[.string ⟨#[]⟩,.int .i64 0])∧i.size=2∧i.bytes=24:=Ib (by kernel_rfl)
theorem CF:cH Tryz.prog 47 46 2 24:=cH.mk_ (z:=.agg #[.string ⟨#[]⟩,.int .i64 0]) (by kernel_rfl) (by kernel_rfl) rfl (by omega)
theorem AR(n:Nat)(hn:n≤1000000)(w:World):Calls Tryz.prog 181 #[.slice none 0 0,.int .i64 n] w fun e w'=>∃A c,e= .returned (.slice A 0 c)∧w'.ownsRow w.heap.size 46 2 (.slice A 0 c) 0 []∧Fr none w w':=by
 rcases Nat.eq_zero_or_pos n with h0|h0
 ·subst h0;go_enter Tryz.func181,Tryz.ntmps181;go_wp2;go_ret;exact⟨none,0,rfl,World.ownsRow_nil _ _ _ _,Fr.refl _ _⟩
 obtain⟨i,hi,hz,hs,hb⟩:=Gy;have hr:=fun ty=>Lib.run_append_nil_zeros (P:=Tryz.prog) w 47 3 ty 46 i (.agg #[.string ⟨#[]⟩,.int .i64 0]) .i64 .i64 Ic Id hi hz n h0 (by omega) (by omega) (by rw[hb];omega);have g1:=grownCap_ge w n 0 46;have g2:=grownCap_le_maxLen w n 0 46 (by unfold maxLen;omega);generalize grownCap w n 0 46=C at*
 unfold maxLen at g2;clear hi hz hs hb;have HR:=sH hr;clear hr;have hw:IntKind.i64.wrap (0 - 0:Int)=0:=rfl;go_enter Tryz.func181,Tryz.ntmps181;go_wp2_with (at_builtin;refine Lib.wpList_append_run _ rfl _ _ _ _ rfl _ _ rfl rfl _ _ (HR.out _) ?_);go_ret;refine⟨some ⟨w.heap.size,0,none⟩,C,rfl,⟨rfl,.inr ⟨w.heap.size,C,Builtin.zeroCells #[.string ⟨#[]⟩,.int .i64 0] n++Builtin.zeroCells #[.string ⟨#[]⟩,.int .i64 0] (C - n),rfl,Nat.le_refl _,?_,Nat.zero_le _,by unfold maxLen;omega,?_,by simp⟩⟩,(Fr.refl none w).drew.alloc _⟩
 ·exact eT (by simp) _
 simp[Builtin.zeroCells];omega
def tY(a b c:List Ast)(j:Nat):List Ast:=if j=0 then[] else if j=1 then a else if j=2 then a++b else a++b++c
theorem wG(a b c:List Ast)(va vb vc:Value)(bk:Nat)(w:World)(h0:w.cell? ⟨bk,0,none⟩=some va)(h1:w.cell? ⟨bk,1,none⟩=some vb)(h2:w.cell? ⟨bk,2,none⟩=some vc)(ha:SlR cB w none va a)(hb:SlR cB w none vb b)(hc:SlR cB w none vc c)(hl:a.length+b.length+c.length≤1000000):
  Calls Tryz.prog 159 #[.slice (some ⟨bk,0,none⟩) 3 3] w fun e w'=>∃D d,e= .returned (.slice D (a++b++c).length d)∧w'.ownsRow w.heap.size 46 2 (.slice D (a++b++c).length d) (a++b++c).length (flR cB (a++b++c))∧Fr none w w':=by
 obtain⟨A,ca,rfl,q1,q2,_⟩:=ha.open_;obtain⟨B,cb,rfl,q3,q4,_⟩:=hb.open_;obtain⟨C9,cc,rfl,q5,q6,_⟩:=hc.open_;go_enter Tryz.func159,Tryz.ntmps159;go_wp2_with fail
 go_loop [3,11] (fun s3 s11=>∃j n:Nat,s11= .int .i64 (j:Int)∧s3= .int .i64 (n:Int)∧j≤3∧Hid (n=(tY a b c j).length)∧n≤a.length+b.length+c.length) (fun _ s11=>3 - (intOf s11).toNat)
 case atStart=>exact⟨0,0,rfl,rfl,by omega,rfl,by omega⟩
 case round=>
  obtain⟨j,n,rfl,rfl,hj,HN,hn⟩:=hrel;rcases(show j=0∨j=1∨j=2∨j=3 by omega) with rfl|rfl|rfl|rfl
  ·have e:n=0:=HN.out;subst e;go_wp2_with fail;go_round
   case rel=>exact⟨1,a.length,by go_num,by go_num,by omega,rfl,by omega⟩
   case measure=>simp[intOf]
  ·have e:n=a.length:=HN.out;subst e;go_wp2_with fail;go_round
   case rel=>exact⟨2,a.length+b.length,by go_num,by go_num,by omega,by simp[Hid,tY],by omega⟩
   case measure=>simp[intOf]
  ·have e:n=a.length+b.length:=by rw[HN.out];simp[tY]
   subst e;go_wp2_with fail;go_round
   case rel=>exact⟨3,a.length+b.length+c.length,by go_num,by go_num,by omega,by simp[Hid,tY];omega,by omega⟩
   case measure=>simp[intOf]
  have e:n=a.length+b.length+c.length:=by rw[HN.out];simp[tY];omega
  subst e;clear HN;go_wp2_with fail;refine(AR (a.length+b.length+c.length) hl w).mono ?_;rintro e w1 ⟨C,c1,rfl,own,F1⟩;go_wp2_with fail;go_loopw [6,27] (fun s6 s27 wr=>∃(j:Nat) (o:List Ast) (C:Option Addr) (c1:Nat),s27= .int .i64 (j:Int)∧s6= .slice C o.length c1∧j≤3∧Hid (o=tY a b c j)∧o.length≤a.length+b.length+c.length∧Fr none w wr∧wr.ownsRow w.heap.size 46 2 (.slice C o.length c1) o.length (flR cB o)) (fun _ s27 _=>3 - (intOf s27).toNat)
  case atStart=>exact⟨0,[],C,c1,rfl,rfl,by omega,rfl,by simp,F1,own⟩
  case round=>
   clear own F1;obtain⟨j,o,C,c1,rfl,rfl,hj,HO,hol,F,own⟩:=hrel;have hz:=F.size;have og:=bH own;have g0:=F.keep h0;have g1:=F.keep h1;have g2:=F.keep h2;have HA:=sH ((ha.fr F).1.any);have HB:=sH ((hb.fr F).1.any);have HC:=sH ((hc.fr F).1.any);rcases(show j=0∨j=1∨j=2∨j=3 by omega) with rfl|rfl|rfl|rfl
   ·obtain rfl:o=[]:=HO.out;go_wp2_with (at_builtin;refine fB CF rfl _ _ rfl w.heap.size C 0 c1 _ rfl own A a.length ca (flR cB a) rfl HA.out (dA cB a) (by omega) (by unfold maxLen;omega) hz ?_;intro C' c' w' own' F' bl');go_roundw
    case rel=>exact⟨1,a,C',c',by go_num,by simp,by omega,rfl,by omega,F.own F' og,by(have:=own';rw[Nat.zero_add] at this;exact this)⟩
    case measure=>simp[intOf]
   ·have e:o=a:=HO.out;subst e;go_wp2_with (at_builtin;refine fB CF rfl _ _ rfl w.heap.size C o.length c1 _ rfl own B b.length cb (flR cB b) rfl HB.out (dA cB b) (by omega) (by unfold maxLen;omega) hz ?_;intro C' c' w' own' F' bl');go_roundw
    case rel=>exact⟨2,o++b,C',c',by go_num,by simp,by omega,by simp[Hid,tY],by simp,F.own F' og,by rw[fW];simpa using own'⟩
    case measure=>simp[intOf]
   ·have e:o=a++b:=HO.out;subst e;have hlen:(a++b).length=a.length+b.length:=List.length_append;rw[hlen] at own ⊢;have og:=bH own;go_wp2_with (at_builtin;refine fB CF rfl _ _ rfl w.heap.size C (a.length+b.length) c1 _ rfl own C9 c.length cc (flR cB c) rfl HC.out (dA cB c) (by omega) (by unfold maxLen;omega) hz ?_;intro C' c' w' own' F' bl');go_roundw
    case rel=>exact⟨3,a++b++c,C',c',by go_num,by simp[Nat.add_assoc],by omega,by simp[Hid,tY],by simp;omega,F.own F' og,by rw[fW];simpa[Nat.add_assoc] using own'⟩
    case measure=>simp[intOf]
   have e:o=a++b++c:=by rw[HO.out];simp[tY]
   subst e;go_wp2;go_ret;exact⟨_,_,rfl,own,F⟩
theorem pX(n:Int)(w:World):Calls Tryz.prog 158 #[.int .i64 n] w fun e w'=>e= .returned (.bool (!aX n))∧w'=w:=by
 go_enter Tryz.func158,Tryz.ntmps158;go_wp2_with fail;refine(cJ n w).mono ?_;rintro e w' ⟨rfl,rfl⟩;go_wp2;go_ret;exact⟨rfl,rfl⟩
theorem qK:∀args w,Sem.run Tryz.prog (callFunc 158 args) w= .ok (.enter 158 args) w:=fun _ _=>by kernel_rfl
theorem AU(x y:Int)(b:Nat)(w:World)(h0:w.cell? ⟨b,0,none⟩=some (.int .i64 x))(h1:w.cell? ⟨b,1,none⟩=some (.int .i64 y)):Calls Tryz.prog 180 #[.slice (some ⟨b,0,none⟩) 2 2,.func (.func 158) #[] #[]] w fun e w'=>e= .returned (.int .i64 (if aX x=false then 0 else if aX y=false then 1 else -1))∧w'=w:=by
 obtain⟨V,hV⟩:∃V:Int,V=if aX x=false then 0 else if aX y=false then 1 else -1:=⟨_,rfl⟩
 rw[←hV];have HV:=sH hV;clear hV;have hrun:=qK;go_enter Tryz.func180,Tryz.ntmps180;go_wp2_with fail;go_loopw [8] (fun s8 wr=>∃j:Nat,j≤2∧s8= .int .i64 (j:Int)∧wr=w∧Hid (0<j→aX x=true)∧Hid (1<j→aX y=true)) (fun s8 _=>2 - (intOf s8).toNat)
 case atStart=>exact⟨0,by omega,rfl,rfl,fun h=>absurd h (by omega),fun h=>absurd h (by omega)⟩
 case round=>
  obtain⟨j,hj,rfl,rfl,H1,H2⟩:=hrel;rcases(show j=0∨j=1∨j=2 by omega) with rfl|rfl|rfl
  ·go_wp2_with fail;refine(pX x wr).mono ?_;rintro e w2 ⟨rfl,rfl⟩;cases hp:aX x with
   |false=>
    have HX:Hid (V=0):=HV.out.trans (if_pos hp);go_wp2;go_ret;exact⟨aM HX.out.symm,rfl⟩
   |true=>
    go_wp2_with fail;go_roundw
    case rel=>exact⟨1,by omega,by go_num,by first|rfl|trivial,fun _=>hp,fun h=>absurd h (by omega)⟩
    case measure=>simp[intOf]
  ·have H1:=sH (H1.out (by omega));go_wp2_with fail;refine(pX y wr).mono ?_;rintro e w2 ⟨rfl,rfl⟩;cases hp:aX y with
   |false=>
    have HX:Hid (V=1):=by unfold Hid;rw[HV.out,if_neg (by rw[H1.out];simp),if_pos hp]
    go_wp2;go_ret;exact⟨aM HX.out.symm,rfl⟩
   |true=>
    go_wp2_with fail;go_roundw
    case rel=>exact⟨2,by omega,by go_num,by first|rfl|trivial,fun _=>H1.out,fun _=>hp⟩
    case measure=>simp[intOf]
  have H1:=sH (H1.out (by omega));have H2:=sH (H2.out (by omega));have HX:Hid (V= -1):=by unfold Hid;rw[HV.out,if_neg (by rw[H1.out];simp),if_neg (by rw[H2.out];simp)]
  go_wp2;go_ret;exact⟨aM HX.out.symm,rfl⟩
theorem CG(x y:Int)(b:Nat)(w:World)(h0:w.cell? ⟨b,0,none⟩=some (.int .i64 x))(h1:w.cell? ⟨b,1,none⟩=some (.int .i64 y)):Calls Tryz.prog 157 #[.slice (some ⟨b,0,none⟩) 2 2,.func (.func 158) #[] #[]] w fun e w'=>e= .returned (.bool (!aX x|| !aX y))∧w'=w:=by
 go_enter Tryz.func157,Tryz.ntmps157;go_wp2_with fail;refine(AU x y b w h0 h1).mono ?_;rintro e w' ⟨rfl,rfl⟩;cases hp:aX x<;>cases hq:aX y<;>(have HP:=sH hp;have HQ:=sH hq;go_wp2;go_ret;exact⟨by rw[HP.out,HQ.out];rfl,rfl⟩)
theorem CI{α:Type}{R:Rec α}{w:World}{b:Nat}{l:List α}{t:TypeId}(h:w.heap[b]?=some (.cells (flR R l).toArray t (0,0)))(hl:l.length≤1000)(hok:∀x ∈ l,R.ok x):SlR R w none (.slice (some ⟨b,0,none⟩) l.length l.length) l:=
 ⟨⟨_,l.length,l.length,rfl,dQ R l,Nat.le_refl _,by unfold maxLen;omega,fun _=>⟨b,0,rfl,⟨aC h,by simp⟩,fun j u hu=>by rw[Nat.zero_add,aA h];simpa using hu⟩⟩,hok⟩
theorem Ie{p:Prop}(h:p:=by
 have m0:World.cell? w3 ⟨w.heap.size+3,0,none⟩=some (.int .i64 0):=(by rw[aA hrb];rfl);have m1:World.cell? w3 ⟨w.heap.size+3,1,none⟩=some (.slice none 0 0):=(by rw[aA hrb];rfl);have y0:=aB hrb 0;have y1:=aB hrb 1;have ml:=aC hrb;go_wp2;refine bodyPost_ret (v:=.tuple #[.agg #[.int .i64 0,.slice none 0 0],.int .i64 65]) (by simp[results,Tryz.results119,go_sem,m0,m1]) rfl ?_;have F9:=(Fr.set1 w3 ⟨w.heap.size+3,0,none⟩ (.int .i64 0)).same (Fr.set1 _ ⟨w.heap.size+3,1,none⟩ (.slice none 0 0));exact⟨0,.slice none 0 0,by rw[HX.out]<;>rfl,FA.own F9,fun e=>absurd (HX.out.symm.trans e) HNZ.out,_,_,_,rfl⟩):p:=h
theorem CJ(g:Lgr)(va vl vo vp:Value)(frm:Int)(give get:Ast)(path:List Ast)(n most:Int)(bn:Nat)(w:World)(h:LgS w none g va vl vo)(hp:SlR cB w none vp path)(hpl:path.length≤1000)(hg1:Wi give.iss)(hg2:Wi get.iss)(hn0:w.cell? ⟨bn,0,none⟩=some (.int .i64 n))(hn1:w.cell? ⟨bn,1,none⟩=some (.int .i64 most)):
  Calls Tryz.prog 119 #[.agg #[.int .i64 g.num,va,vl,vo,.int .i64 g.nid,.int .i64 g.fees,.int .u64 (g.link:Int)],.int .i64 frm,.agg #[.string (bL give.code),.int .i64 give.iss],.agg #[.string (bL get.code),.int .i64 get.iss],vp,.slice (some ⟨bn,0,none⟩) 2 2] w fun e w'=>∃(fr:Int) (ch:Value),e= .returned (.tuple #[.agg #[.int .i64 fr,ch],.int .i64 (qE g give get path n most)])∧Fr none w w'∧(qE g give get path n most=0→fr=frm∧SlR cB w' none ch ([give]++path++[get]))∧∃A n c,ch= .slice A n c:=by
 obtain⟨V,hV⟩:∃V,V=qE g give get path n most:=⟨_,rfl⟩;rw[←hV];unfold qE at hV;have HV:=sH hV;clear hV;obtain⟨A1,c1,rfl, -, -, -⟩:=aN h.1;obtain⟨A2,c2,rfl, -, -, -⟩:=aU h.2.1;obtain⟨A3,c3,rfl, -, -, -⟩:=bA h.2.2.1;have HP:=sH hp;obtain⟨Ap,cp,rfl, -, -, -⟩:=iJ hp;have HG:=sH h;clear h hp;go_enter Tryz.func119,Tryz.ntmps119;go_upto_region 1 with(fail)
 generalize hW:(((w.alloc _).alloc _).alloc _).alloc _=w1;obtain⟨FA,hlg,hga,hgb,hrb⟩:Fr none w w1∧LgB w1 w.heap.size g (.slice A1 g.accs.length c1) (.slice A2 g.lines.length c2) (.slice A3 g.offers.length c3)∧dK w1 (w.heap.size+1) give∧dK w1 (w.heap.size+2) get∧w1.heap[w.heap.size+3]?=some (.cells #[.int .i64 0,.slice none 0 0] 162 (0,0)):=by rw[←hW];exact jF w _ _ _ _
 clear hW;obtain⟨k0,k1,k2,k3,k4,k5,k6⟩:=hlg.cells;go_wp2_with fail;refine(eJ g _ _ _ w1 (HG.out.fr FA)).mono ?_;rintro e w2 ⟨rfl,F2⟩;clear k0 k1 k2 k3 k4 k5 k6;have FA:=FA.pure F2;have hlg:=hlg.fr F2;have hga:=hga.fr F2;have hgb:=hgb.fr F2;have hrb:=aF hrb F2 (by simp);clear F2;obtain⟨C,hC⟩:∃C,C=aH g:=⟨_,rfl⟩;have HCC:=sH hC;rw[←hC] at HV ⊢;clear hC;by_cases h0:C=0
 ·subst h0;have HV:=sH (HV.out.trans (if_neg (by simp)));have n0:=FA.keep hn0;have n1:=FA.keep hn1;go_wp2_with fail;refine(CG n most bn w2 n0 n1).mono ?_;rintro e w3 ⟨rfl,rfl⟩;obtain⟨Q,hQ⟩:∃Q,Q=(!aX n|| !aX most):=⟨_,rfl⟩;rw[←hQ];have HQ:=sH hQ;clear hQ;cases Q with
  |true=>
   have HX:Hid (V=65):=by
    unfold Hid;rw[HV.out,if_pos];have:=HQ.out.symm;simp only[Bool.or_eq_true,Bool.not_eq_true'] at this;rcases this with h|h
    ·exact .inl h
    exact .inr (.inl h)
   have HNZ:=sH (show(65:Int)≠0 by decide);clear n0 n1 HV HQ;exact Ie
  |false=>
   by_cases hz:n=0
   ·have HX:Hid (V=65):=HV.out.trans (if_pos (.inr (.inr hz)));have HNZ:=sH (show(65:Int)≠0 by decide);have hd:(n == 0)=true:=by simp[hz]
    clear HV HQ hz;exact Ie
   have HV:Hid (V=if aV give=false∨aV get=false∨gI path=false then 71 else 0):=by
    unfold Hid;rw[HV.out,if_neg];have:=HQ.out.symm;simp only[Bool.or_eq_false_iff,Bool.not_eq_false'] at this;rintro(h|h|h)
    ·rw[this.1] at h;cases h
    ·rw[this.2] at h;cases h
    exact hz h
   have hd:(n == 0)=false:=by simp[hz]
   clear HQ hz;obtain⟨a0,a1⟩:=hga.cells;go_wp2_with fail;refine(bT give w3).mono ?_;rintro e w4 ⟨rfl,F4⟩;clear a0 a1 n0 n1;have FA:=FA.pure F4;have hlg:=hlg.fr F4;have hga:=hga.fr F4;have hgb:=hgb.fr F4;have hrb:=aF hrb F4 (by simp);clear F4;generalize aV give=v1 at*
   cases v1 with
   |false=>
    have HX:Hid (V=71):=HV.out.trans (if_pos (.inl rfl));have HNZ:=sH (show(71:Int)≠0 by decide);clear HV;have m0:World.cell? w4 ⟨w.heap.size+3,0,none⟩=some (.int .i64 0):=(by rw[aA hrb];rfl);have m1:World.cell? w4 ⟨w.heap.size+3,1,none⟩=some (.slice none 0 0):=(by rw[aA hrb];rfl);have y0:=aB hrb 0;have y1:=aB hrb 1;have ml:=aC hrb;go_wp2;refine bodyPost_ret (v:=.tuple #[.agg #[.int .i64 0,.slice none 0 0],.int .i64 71]) (by simp[results,Tryz.results119,go_sem,m0,m1]) rfl ?_;have F9:=(Fr.set1 w4 ⟨w.heap.size+3,0,none⟩ (.int .i64 0)).same (Fr.set1 _ ⟨w.heap.size+3,1,none⟩ (.slice none 0 0));exact⟨0,.slice none 0 0,by rw[HX.out]<;>rfl,FA.own F9,fun e=>absurd (HX.out.symm.trans e) HNZ.out,_,_,_,rfl⟩
   |true=>
    obtain⟨a2,a3⟩:=hgb.cells;go_wp2_with fail;refine(bT get w4).mono ?_;rintro e w5 ⟨rfl,F5⟩;clear a2 a3;have FA:=FA.pure F5;have hlg:=hlg.fr F5;have hga:=hga.fr F5;have hgb:=hgb.fr F5;have hrb:=aF hrb F5 (by simp);clear F5;generalize aV get=v2 at*
    cases v2 with
    |false=>
     have HX:Hid (V=71):=HV.out.trans (if_pos (.inr (.inl rfl)));have HNZ:=sH (show(71:Int)≠0 by decide);clear HV;have m0:World.cell? w5 ⟨w.heap.size+3,0,none⟩=some (.int .i64 0):=(by rw[aA hrb];rfl);have m1:World.cell? w5 ⟨w.heap.size+3,1,none⟩=some (.slice none 0 0):=(by rw[aA hrb];rfl);have y0:=aB hrb 0;have y1:=aB hrb 1;have ml:=aC hrb;go_wp2;refine bodyPost_ret (v:=.tuple #[.agg #[.int .i64 0,.slice none 0 0],.int .i64 71]) (by simp[results,Tryz.results119,go_sem,m0,m1]) rfl ?_;have F9:=(Fr.set1 w5 ⟨w.heap.size+3,0,none⟩ (.int .i64 0)).same (Fr.set1 _ ⟨w.heap.size+3,1,none⟩ (.slice none 0 0));exact⟨0,.slice none 0 0,by rw[HX.out]<;>rfl,FA.own F9,fun e=>absurd (HX.out.symm.trans e) HNZ.out,_,_,_,rfl⟩
    |true=>
     go_wp2_with fail;refine(vB path _ w5 (HP.out.fr FA)).mono ?_;rintro e w6 ⟨rfl,F6⟩;have FA:=FA.pure F6;have hlg:=hlg.fr F6;have hga:=hga.fr F6;have hgb:=hgb.fr F6;have hrb:=aF hrb F6 (by simp);clear F6;generalize gI path=v3 at*
     cases v3 with
     |false=>
      have HX:Hid (V=71):=HV.out.trans (if_pos (.inr (.inr rfl)));have HNZ:=sH (show(71:Int)≠0 by decide);clear HV;have m0:World.cell? w6 ⟨w.heap.size+3,0,none⟩=some (.int .i64 0):=(by rw[aA hrb];rfl);have m1:World.cell? w6 ⟨w.heap.size+3,1,none⟩=some (.slice none 0 0):=(by rw[aA hrb];rfl);have y0:=aB hrb 0;have y1:=aB hrb 1;have ml:=aC hrb;go_wp2;refine bodyPost_ret (v:=.tuple #[.agg #[.int .i64 0,.slice none 0 0],.int .i64 71]) (by simp[results,Tryz.results119,go_sem,m0,m1]) rfl ?_;have F9:=(Fr.set1 w6 ⟨w.heap.size+3,0,none⟩ (.int .i64 0)).same (Fr.set1 _ ⟨w.heap.size+3,1,none⟩ (.slice none 0 0));exact⟨0,.slice none 0 0,by rw[HX.out]<;>rfl,FA.own F9,fun e=>absurd (HX.out.symm.trans e) HNZ.out,_,_,_,rfl⟩
     |true=>
      have HX:Hid (V=0):=HV.out.trans (if_neg (by simp));clear HV;obtain⟨a0,a1⟩:=hga.cells;obtain⟨a2,a3⟩:=hgb.cells;go_upto_region 8 with(fail)
      have hl1:=aC hga;have hl2:=aC hgb;go_wp2_with fail;generalize hW:((w6.alloc _).alloc _).alloc _=w7;obtain⟨F7,b1,b2,b3⟩:Fr none w6 w7∧w7.heap[w6.heap.size]?=some (.cells #[.string (bL give.code),.int .i64 give.iss] 46 (0,0))∧w7.heap[w6.heap.size+1]?=some (.cells #[.string (bL get.code),.int .i64 get.iss] 46 (0,0))∧w7.heap[w6.heap.size+2]?=some (.cells #[.slice (some ⟨w6.heap.size,0,none⟩) 1 1,.slice Ap path.length cp,.slice (some ⟨w6.heap.size+1,0,none⟩) 1 1] 47 (0,0)):=by rw[←hW];exact eS w6 _ _ _
      clear hW;clear a0 a1 a2 a3;clear hl1 hl2;have FA:=FA.pure F7;have hlg:=hlg.fr F7;have hga:=hga.fr F7;have hgb:=hgb.fr F7;have hrb:=aF hrb F7 (by simp);clear F7;have s1:SlR cB w7 none (.slice (some ⟨w6.heap.size,0,none⟩) 1 1) [give]:=CI (l:=[give]) b1 (by simp) (fun x hx=>by simp at hx;subst hx;exact hg1);have s2:SlR cB w7 none (.slice (some ⟨w6.heap.size+1,0,none⟩) 1 1) [get]:=CI (l:=[get]) b2 (by simp) (fun x hx=>by simp at hx;subst hx;exact hg2);have q0:w7.cell? ⟨w6.heap.size+2,0,none⟩=some (.slice (some ⟨w6.heap.size,0,none⟩) 1 1):=by rw[aA b3];rfl
      have q1:w7.cell? ⟨w6.heap.size+2,1,none⟩=some (.slice Ap path.length cp):=by rw[aA b3];rfl
      have q2:w7.cell? ⟨w6.heap.size+2,2,none⟩=some (.slice (some ⟨w6.heap.size+1,0,none⟩) 1 1):=by rw[aA b3];rfl
      refine(wG [give] path [get] _ _ _ (w6.heap.size+2) w7 q0 q1 q2 s1 (HP.out.fr FA) s2 (by simp;omega)).mono ?_;rintro e w8 ⟨D,dd,rfl,own,F8⟩;clear q0 q1 q2 s1 s2 b1 b2 b3;have HL7:=sH (aC hrb);have FA:=FA.pure F8;have hlg:=hlg.fr F8;have hga:=hga.fr F8;have hgb:=hgb.fr F8;have hrb:=aF hrb F8 (by simp);clear F8;have HOWN:=sH own;have HCK:Hid (∀x ∈ [give]++path++[get],cB.ok x):=fun x hx=>by
       simp only[List.mem_append,List.mem_singleton] at hx;rcases hx with(rfl|hx)|rfl
       ·exact hg1
       ·exact HP.out.2 x hx
       exact hg2
      clear own;obtain⟨CH,hCH⟩:∃CH,CH=[give]++path++[get]:=⟨_,rfl⟩;rw[←hCH] at HOWN HCK ⊢;have HCHE:=sH hCH;clear hCH;have m0:World.cell? w8 ⟨w.heap.size+3,0,none⟩=some (.int .i64 0):=(by rw[aA hrb];rfl);have m1:World.cell? w8 ⟨w.heap.size+3,1,none⟩=some (.slice none 0 0):=(by rw[aA hrb];rfl);have y0:=aB hrb 0;have y1:=aB hrb 1;have ml:=aC hrb;go_wp2;refine bodyPost_ret (v:=.tuple #[.agg #[.int .i64 frm,.slice D CH.length dd],.int .i64 0]) (by simp[results,Tryz.results119,go_sem,m0,m1]) rfl ?_;have F9:=(Fr.set1 w8 ⟨w.heap.size+3,0,none⟩ (.int .i64 frm)).same (Fr.set1 _ ⟨w.heap.size+3,1,none⟩ (.slice D CH.length dd));exact⟨frm,.slice D CH.length dd,by rw[HX.out]<;>rfl,FA.own F9,fun _=>⟨rfl,by have hs:SlR cB _ none (.slice D CH.length dd) CH:=SlR.of_own (aR HOWN.out F9 (fun x e=>by have e:some (w.heap.size+3)=some x:=e;injection e with e;have:=HL7.out;omega)) (by simp) HCK.out;have he:=HCHE.out;rw[he] at hs ⊢;simpa using hs⟩,_,_,_,rfl⟩
 have HX:=sH (HV.out.trans (if_pos h0));have HNZ:=sH h0;have hq:(C !=0)=true:=by simp[h0]
 clear h0;have m0:World.cell? w2 ⟨w.heap.size+3,0,none⟩=some (.int .i64 0):=(by rw[aA hrb];rfl);have m1:World.cell? w2 ⟨w.heap.size+3,1,none⟩=some (.slice none 0 0):=(by rw[aA hrb];rfl);have y0:=aB hrb 0;have y1:=aB hrb 1;have ml:=aC hrb;go_wp2;refine bodyPost_ret (v:=.tuple #[.agg #[.int .i64 0,.slice none 0 0],.int .i64 C]) (by simp[results,Tryz.results119,go_sem,m0,m1]) rfl ?_;have F9:=(Fr.set1 w2 ⟨w.heap.size+3,0,none⟩ (.int .i64 0)).same (Fr.set1 _ ⟨w.heap.size+3,1,none⟩ (.slice none 0 0));exact⟨0,.slice none 0 0,by rw[HX.out]<;>rfl,FA.own F9,fun e=>absurd (HX.out.symm.trans e) HNZ.out,_,_,_,rfl⟩
end Go.Proofs.YthaggndnfamhjaaGreatDoor
