/- Texts, joined. -/
import Derived.Test.YthaggndnfamhjaaGreatDoorJK8
import Derived.Test.YthaggndnfamhjaaGreatDoorJK4
import Derived.Test.YthaggndnfamhjaaGreatDoorProg
import Derived.Test.YthaggndnfamhjaaGreatDoorJK12
import Derived.Test.YthaggndnfamhjaaGreatDoorJK28
import Derived.Test.YthaggndnfamhjaaGreatDoorJK27
import Derived.Test.YthaggndnfamhjaaGreatDoorJK18
import Derived.Test.YthaggndnfamhjaaGreatDoorJK10
import Derived.Test.YthaggndnfamhjaaGreatDoorJA

set_option linter.unusedSimpArgs false
set_option linter.unusedVariables false
set_option maxRecDepth 100000
set_option maxHeartbeats 16000000
namespace Go.Proofs.YthaggndnfamhjaaGreatDoor
open Go.RowKit
theorem xK(v:List UInt8)(w:World)(hE:Errs w)(hM:Mxl w)(hL:(112::v).length≤1000000)(hA:∀c ∈ (112::v),c.toNat<128):Calls Tryz.prog 96 #[.string (bL (112::v))] w fun e w'=>∃o A c ok,e= .returned (.tuple #[.agg (opL o (.slice A o.path.length c)).toArray,.bool ok])∧RdP (112::v) o ok∧SlN cB w.heap.size w' (.slice A o.path.length c) o.path∧OpW o∧Fr none w w':=by
 obtain⟨k,hkk⟩:∃k:UInt8,k=112:=⟨_,rfl⟩;rw[←hkk] at hL hA ⊢;have HKK:=sH hkk;clear hkk;have HA:=sH hA;clear hA;have he:(bL (k::v)).toList.isEmpty=false:=by rw[bQ];rfl
 go_enter Tryz.func96,Tryz.ntmps96;go_upto_region 1 with(fail)
 generalize hW:w.alloc _=w0;have F0:Fr none w w0:=hW▸(Fr.refl none w).alloc _;have b0:OpB w0 w.heap.size op0 (.slice none 0 0):=by rw[←hW];exact aD _ _
 have hE0:=hE.frs F0 (by simp) (by simp);have hM0:=hM.frs F0 (by simp);have hE1w:=hE.lt;clear hW hE hM;have hsz:(bL (k::v)).size=v.length+1:=by rw[dB,List.length_cons]
 have h1:(1:Int)≤((bL (k::v)).size:Int):=by omega
 have hx0:(bL (k::v)).extract 1 (bL (k::v)).size=bL v:=by rw[hsz];apply ByteArray.ext;apply Array.ext';simp[bL]
 have hx1:(bL (k::v)).extract 1 (v.length+1)=bL v:=by apply ByteArray.ext;apply Array.ext';simp[bL]
 go_wp2_with fail;refine(mI 44 v w0 hM0 (by simp at hL;omega)).mono ?_;rintro e w1 ⟨A,n,c,rfl,hn,hs,F1⟩;go_upto_region 5 with(fail)
 have HM1:True:=trivial;obtain⟨fb,hfb0⟩:∃fb,fb=w1.heap.size:=⟨_,rfl⟩;obtain⟨L,hL0⟩:∃L,L=eO 44 v:=⟨_,rfl⟩;have HL0:=sH hL0;rw[hn,←hL0] at hs;rw[←hL0];rw[←hfb0];have b1:(w1.alloc (.cells #[.slice A L.length c,.bool false] 143)).heap[fb]?=some (.cells #[.slice A L.length c,.bool false] 143 (0,0)):=by rw[hfb0];exact aD _ _
 generalize hW1:w1.alloc _=w2 at b1 ⊢;have F2:Fr none w1 w2:=hW1▸(Fr.refl none w1).alloc _;have s2:w2.heap.size=fb+1:=by rw[←hW1,hfb0];exact Array.size_push _
 clear hW1;generalize hW2:w2.alloc _=wn0;have b2:OpB wn0 (fb+1) op0 (.slice none 0 0):=by rw[←hW2,←s2];exact aD _ _
 have F3:Fr none w2 wn0:=hW2▸(Fr.refl none w2).alloc _;clear hW2;obtain⟨ob,hob⟩:∃ob,ob=fb+1:=⟨_,rfl⟩;rw[←hob] at b2 ⊢;have hfo:fb<ob:=by omega
 have hwf:w.heap.size<fb:=by have:=b0.lt;have:=F1.size;omega
 have FF:Fr none w wn0:=((F0.pure F1).pure F2).pure F3;have hO:OpB wn0 ob op0 (.slice none 0 0):=b2;have hR:OpB wn0 w.heap.size op0 (.slice none 0 0):=b0.fr ((F1.pure F2).pure F3);have hE:Errs wn0:=hE0.frs ((F1.pure F2).pure F3) (by simp) (by simp);have hF:FdB wn0 fb fb (L.drop 0) false:=by
  have hs2:=s2;have hs3:=F3.size;rw[List.drop_zero];refine⟨by omega,A,c,aF b1 F3 (by simp),hs.keep (D':=Db fb fb) (fun j hj=>⟨⟨by omega,by omega⟩,?_⟩)⟩;rw[F3.block j (by omega) (by simp),F2.block j (by omega) (by simp)]
 have hle:=hE.lt;have hew:=hE0.lt;have hnb1:fb≠3∧ob≠3:=by
  have:=hE1w.1;exact⟨by omega,by omega⟩
 have hnb2:fb≠4∧ob≠4:=by
  have:=hE1w.2;exact⟨by omega,by omega⟩
 have HEb:Hid (3<ob∧4<ob):=⟨by have:=hE1w.1;omega,by have:=hE1w.2;omega⟩;clear hs b1 b2 s2 hfb0 hob F0 F1 F2 F3 b0 hE0 hM0 hL0 hn hle hew hE1w;have HLn:Hid (∀i,∀x ∈ L.drop i,x.length≤1000000∧∀c ∈ x,c.toNat<128):=fun i x hx=>by
  have hx':=List.mem_of_mem_drop hx;rw[HL0.out] at hx';have:=lM hx';simp only[List.length_cons] at hL;exact⟨by omega,fun c hc=>HA.out c (List.mem_cons_of_mem _ (this.2 c hc))⟩
 have hg:∀h:0<(bL (k::v)).size,(bL (k::v))[0]'h=k:=fun _=>rfl;have hne:some fb≠some ob:=fun e=>by have:=Option.some.inj e;omega
 have hne':some ob≠some fb:=fun e=>by have:=Option.some.inj e;omega
 have hnr:some fb≠some w.heap.size:=fun e=>by have:=Option.some.inj e;omega
 have hnr':some ob≠some w.heap.size:=fun e=>by have:=Option.some.inj e;omega
 have hob:w.heap.size≤ob:=by omega
 have hfb:w.heap.size≤fb:=by omega
 have hob':fb≤ob:=by omega
 have Z1:some fb≠some 3:=fun e=>hnb1.1 (Option.some.inj e);have Z2:some fb≠some 4:=fun e=>hnb2.1 (Option.some.inj e);have Z3:some ob≠some 3:=fun e=>hnb1.2 (Option.some.inj e);have Z4:some ob≠some 4:=fun e=>hnb2.2 (Option.some.inj e);have hkk:=HKK.out;subst hkk;have hx0:((112:Int) == 99)=false:=by decide
 have zc:=OpB.free hO 0;have ec:World.cell? wn0 ⟨ob,0,none⟩=_:=OpB.cell hO 0;have elc:=OpB.lt hO;simp only[opL,List.getElem?_cons_zero,List.getElem?_cons_succ] at ec;go_wp2_with fail;generalize hW:World.setCell _ _ _=wn1;have G:Fr (some ob) wn0 wn1:=hW▸Fr.set1 wn0 ⟨ob,0,none⟩ (.int .i64 2);have hO2:=OpB.kind hO 2;rw[hW] at hO2;try dsimp only at hO2
 have hF2:=hF.fr G hne' (fun g e=>by rw[←Option.some.inj e];exact hob');have hE2:=hE.frs G Z3 Z4;have hR2:=hR.fr G hnr';have FF2:=FF.new G hob;clear hW G hO hF hE hR FF zc ec elc;have hO:=hO2;have hF:=hF2;have hE:=hE2;have hR:=hR2;have FF:=FF2;clear hO2 hF2 hE2 hR2 FF2;refine(iM fb fb (L.drop 0) false wn1 hF hE (fun x hx=>(HLn.out 0 x hx).1) hnb1.1 hnb2.1).mono ?_;rintro e wn2 ⟨n1,b1,rfl,hf,hN1,hW1,F⟩;have hF2:FdB wn2 fb fb (L.drop 1) b1:=by rw[List.drop_drop] at hf;exact hf
 have hO2:=hO.fr F hne;have hE2:=hE.frs F Z1 Z2;have hR2:=hR.fr F hnr;have FF2:=FF.new F hfb;have HN1:=sH hN1;have HW1:=sH hW1;clear hf hO hF hE hR FF F hN1 hW1;have hO:=hO2;have hF:=hF2;have hE:=hE2;have hR:=hR2;have FF:=FF2;clear hO2 hF2 hE2 hR2 FF2;have zc:=OpB.free hO 1;have ec:World.cell? wn2 ⟨ob,1,none⟩=_:=OpB.cell hO 1;have elc:=OpB.lt hO;simp only[opL,List.getElem?_cons_zero,List.getElem?_cons_succ] at ec;go_wp2_with fail;generalize hW:World.setCell _ _ _=wn3;have G:Fr (some ob) wn2 wn3:=hW▸Fr.set1 wn2 ⟨ob,1,none⟩ (.int .i64 n1);have hO2:=OpB.to_ hO n1;rw[hW] at hO2;try dsimp only at hO2
 have hF2:=hF.fr G hne' (fun g e=>by rw[←Option.some.inj e];exact hob');have hE2:=hE.frs G Z3 Z4;have hR2:=hR.fr G hnr';have FF2:=FF.new G hob;clear hW G hO hF hE hR FF zc ec elc;have hO:=hO2;have hF:=hF2;have hE:=hE2;have hR:=hR2;have FF:=FF2;clear hO2 hF2 hE2 hR2 FF2;refine(iM fb fb (L.drop 1) b1 wn3 hF hE (fun x hx=>(HLn.out 1 x hx).1) hnb1.1 hnb2.1).mono ?_;rintro e wn4 ⟨n2,b2,rfl,hf,hN2,hW2,F⟩;have hF2:FdB wn4 fb fb (L.drop 2) b2:=by rw[List.drop_drop] at hf;exact hf
 have hO2:=hO.fr F hne;have hE2:=hE.frs F Z1 Z2;have hR2:=hR.fr F hnr;have FF2:=FF.new F hfb;have HN2:=sH hN2;have HW2:=sH hW2;clear hf hO hF hE hR FF F hN2 hW2;have hO:=hO2;have hF:=hF2;have hE:=hE2;have hR:=hR2;have FF:=FF2;clear hO2 hF2 hE2 hR2 FF2;have zc:=OpB.free hO 2;have ec:World.cell? wn4 ⟨ob,2,none⟩=_:=OpB.cell hO 2;have elc:=OpB.lt hO;simp only[opL,List.getElem?_cons_zero,List.getElem?_cons_succ] at ec;go_wp2_with fail;generalize hW:World.setCell _ _ _=wn5;have G:Fr (some ob) wn4 wn5:=hW▸Fr.set1 wn4 ⟨ob,2,none⟩ (.int .i64 n2);have hO2:=OpB.amt hO n2;rw[hW] at hO2;try dsimp only at hO2
 have hF2:=hF.fr G hne' (fun g e=>by rw[←Option.some.inj e];exact hob');have hE2:=hE.frs G Z3 Z4;have hR2:=hR.fr G hnr';have FF2:=FF.new G hob;clear hW G hO hF hE hR FF zc ec elc;have hO:=hO2;have hF:=hF2;have hE:=hE2;have hR:=hR2;have FF:=FF2;clear hO2 hF2 hE2 hR2 FF2;refine(zL fb fb (L.drop 2) b2 wn5 hF hE (fun x hx=>HLn.out 2 x hx) hnb1.1 hnb2.1).mono ?_;rintro e wn6 ⟨n3,b3,rfl,hf,hN3,hW3,F⟩;have hF2:FdB wn6 fb fb (L.drop 3) b3:=by rw[List.drop_drop] at hf;exact hf
 have hN3:GI (L.drop 2) b2 n3 b3:=hN3;have hO2:=hO.fr F hne;have hE2:=hE.frs F Z1 Z2;have hR2:=hR.fr F hnr;have FF2:=FF.new F hfb;have HN3:=sH hN3;have HW3:=sH hW3;clear hf hO hF hE hR FF F hN3 hW3;have hO:=hO2;have hF:=hF2;have hE:=hE2;have hR:=hR2;have FF:=FF2;clear hO2 hF2 hE2 hR2 FF2;have zc:=OpB.free hO 4;have ec:World.cell? wn6 ⟨ob,4,none⟩=_:=OpB.cell hO 4;have elc:=OpB.lt hO;simp only[opL,List.getElem?_cons_zero,List.getElem?_cons_succ] at ec;have zc2:=OpB.free hO 5;have ec2:World.cell? wn6 ⟨ob,5,none⟩=_:=OpB.cell hO 5;simp only[opL,List.getElem?_cons_zero,List.getElem?_cons_succ] at ec2;go_upto_region 38 with(fail)
 generalize hW:World.setCell _ _ _=wn7;have G:Fr (some ob) wn6 wn7:=hW▸((Fr.set1 wn6 ⟨ob,4,none⟩ (.string (bL n3.code))).setRow (p:=⟨ob,5,none⟩) rfl (.int .i64 n3.iss));have hO2:=OpB.ast hO n3;rw[hW] at hO2;try dsimp only at hO2
 clear zc2 ec2;have hF2:=hF.fr G hne' (fun g e=>by rw[←Option.some.inj e];exact hob');have hE2:=hE.frs G Z3 Z4;have hR2:=hR.fr G hnr';have FF2:=FF.new G hob;clear hW G hO hF hE hR FF zc ec elc;have hO:=hO2;have hF:=hF2;have hE:=hE2;have hR:=hR2;have FF:=FF2;clear hO2 hF2 hE2 hR2 FF2;have HRd:=sH (GK HL0.out HN1.out HN2.out HN3.out);obtain⟨o,Ap,cp,hO2,hSl,HRd2,hOW⟩:∃o Ap cp,OpB wn7 ob o (.slice Ap o.path.length cp)∧Hid (SlN cB (w.heap.size+1) wn7 (.slice Ap o.path.length cp) o.path)∧Hid ((b3=false→L.drop 3=[]→rdO (112::v)=some o)∧(b3=true∨L.drop 3≠[]→rdO (112::v)=none))∧Hid (OpW o):=⟨{op0 with kind:=2,to_:=n1,amt:=n2,ast:=n3},none,0,hO,SlN.nil _ _ _,HRd.out,by refine⟨?_,?_,?_,?_,?_,?_,?_,?_,?_⟩<;>first|exact HW1.out|exact HW2.out|exact HW3.out|exact HW4.out|exact HW5.out|exact wi0|exact wi1|exact wi2|exact wi3|exact wi4|exact wi5|exact wi6⟩;clear hO HRd;have hO:=hO2;have HRd:=HRd2;clear hO2 HRd2;obtain⟨R,hRR⟩:∃R,R=L.drop 3:=⟨_,rfl⟩;rw[←hRR] at hF;have HRR:=sH hRR;clear hRR;have hF':=hF;obtain⟨_,A1,c1,hb1,_⟩:=hF';have f0:World.cell? wn7 ⟨fb,0,none⟩=some (.slice A1 R.length c1):=by rw[aA hb1];rfl
 have f1:World.cell? wn7 ⟨fb,1,none⟩=some (.bool b3):=by rw[aA hb1];rfl
 have fl:=hF.lt;clear hb1;have z0:=OpB.free hR 0;have z1:=OpB.free hR 1;have z2:=OpB.free hR 2;have z3:=OpB.free hR 3;have z4:=OpB.free hR 4;have z5:=OpB.free hR 5;have z6:=OpB.free hR 6;have z7:=OpB.free hR 7;have z8:=OpB.free hR 8;have z9:=OpB.free hR 9;have z10:=OpB.free hR 10;have z11:=OpB.free hR 11;have e0:World.cell? wn7 ⟨w.heap.size,0,none⟩=_:=OpB.cell hR 0;have e1:World.cell? wn7 ⟨w.heap.size,1,none⟩=_:=OpB.cell hR 1;have e2:World.cell? wn7 ⟨w.heap.size,2,none⟩=_:=OpB.cell hR 2;have e3:World.cell? wn7 ⟨w.heap.size,3,none⟩=_:=OpB.cell hR 3;have e4:World.cell? wn7 ⟨w.heap.size,4,none⟩=_:=OpB.cell hR 4;have e5:World.cell? wn7 ⟨w.heap.size,5,none⟩=_:=OpB.cell hR 5;have e6:World.cell? wn7 ⟨w.heap.size,6,none⟩=_:=OpB.cell hR 6;have e7:World.cell? wn7 ⟨w.heap.size,7,none⟩=_:=OpB.cell hR 7;have e8:World.cell? wn7 ⟨w.heap.size,8,none⟩=_:=OpB.cell hR 8;have e9:World.cell? wn7 ⟨w.heap.size,9,none⟩=_:=OpB.cell hR 9;have e10:World.cell? wn7 ⟨w.heap.size,10,none⟩=_:=OpB.cell hR 10;have e11:World.cell? wn7 ⟨w.heap.size,11,none⟩=_:=OpB.cell hR 11;have el:=OpB.lt hR;simp only[opL,List.getElem?_cons_zero,List.getElem?_cons_succ] at e0 e1 e2 e3 e4 e5 e6 e7 e8 e9 e10 e11;have o0:World.cell? wn7 ⟨ob,0,none⟩=_:=OpB.cell hO 0;have o1:World.cell? wn7 ⟨ob,1,none⟩=_:=OpB.cell hO 1;have o2:World.cell? wn7 ⟨ob,2,none⟩=_:=OpB.cell hO 2;have o3:World.cell? wn7 ⟨ob,3,none⟩=_:=OpB.cell hO 3;have o4:World.cell? wn7 ⟨ob,4,none⟩=_:=OpB.cell hO 4;have o5:World.cell? wn7 ⟨ob,5,none⟩=_:=OpB.cell hO 5;have o6:World.cell? wn7 ⟨ob,6,none⟩=_:=OpB.cell hO 6;have o7:World.cell? wn7 ⟨ob,7,none⟩=_:=OpB.cell hO 7;have o8:World.cell? wn7 ⟨ob,8,none⟩=_:=OpB.cell hO 8;have o9:World.cell? wn7 ⟨ob,9,none⟩=_:=OpB.cell hO 9;have o10:World.cell? wn7 ⟨ob,10,none⟩=_:=OpB.cell hO 10;have o11:World.cell? wn7 ⟨ob,11,none⟩=_:=OpB.cell hO 11;simp only[opL,List.getElem?_cons_zero,List.getElem?_cons_succ] at o0 o1 o2 o3 o4 o5 o6 o7 o8 o9 o10 o11;have ol:=hO.lt;cases b3 with
 |true=>
  go_region
  go_wp2_with fail;clear z0 z1 z2 z3 z4 z5 z6 z7 z8 z9 z10 z11 e0 e1 e2 e3 e4 e5 e6 e7 e8 e9 e10 e11 el;generalize hW5:World.drew _=w9;obtain⟨R9,G9⟩:=Bq hR o _ w9 hW5.symm;clear hW5;have z0:=OpB.free R9 0;have z1:=OpB.free R9 1;have z2:=OpB.free R9 2;have z3:=OpB.free R9 3;have z4:=OpB.free R9 4;have z5:=OpB.free R9 5;have z6:=OpB.free R9 6;have z7:=OpB.free R9 7;have z8:=OpB.free R9 8;have z9:=OpB.free R9 9;have z10:=OpB.free R9 10;have z11:=OpB.free R9 11;have e0:World.cell? w9 ⟨w.heap.size,0,none⟩=_:=OpB.cell R9 0;have e1:World.cell? w9 ⟨w.heap.size,1,none⟩=_:=OpB.cell R9 1;have e2:World.cell? w9 ⟨w.heap.size,2,none⟩=_:=OpB.cell R9 2;have e3:World.cell? w9 ⟨w.heap.size,3,none⟩=_:=OpB.cell R9 3;have e4:World.cell? w9 ⟨w.heap.size,4,none⟩=_:=OpB.cell R9 4;have e5:World.cell? w9 ⟨w.heap.size,5,none⟩=_:=OpB.cell R9 5;have e6:World.cell? w9 ⟨w.heap.size,6,none⟩=_:=OpB.cell R9 6;have e7:World.cell? w9 ⟨w.heap.size,7,none⟩=_:=OpB.cell R9 7;have e8:World.cell? w9 ⟨w.heap.size,8,none⟩=_:=OpB.cell R9 8;have e9:World.cell? w9 ⟨w.heap.size,9,none⟩=_:=OpB.cell R9 9;have e10:World.cell? w9 ⟨w.heap.size,10,none⟩=_:=OpB.cell R9 10;have e11:World.cell? w9 ⟨w.heap.size,11,none⟩=_:=OpB.cell R9 11;have el:=OpB.lt R9;simp only[opL,List.getElem?_cons_zero,List.getElem?_cons_succ] at e0 e1 e2 e3 e4 e5 e6 e7 e8 e9 e10 e11;refine bodyPost_ret (v:=.tuple #[.agg (opL o (.slice Ap o.path.length cp)).toArray,.bool false]) (by simp[results,Tryz.results96,go_sem,opL,e0,e1,e2,e3,e4,e5,e6,e7,e8,e9,e10,e11]) rfl ?_;exact⟨o,Ap,cp,.inl ⟨rfl,⟨(fun e=>by cases e),fun _=>HRd.out.2 (.inl (by simp))⟩,((hSl.out).fr G9 (by intro g hg;injection hg with hg;omega)).mono (Nat.le_succ _),hOW.out,FF.new G9 (Nat.le_refl _)⟩⟩
 |false=>
  cases R with
  |nil=>
   go_region
   go_wp2_with fail;clear z0 z1 z2 z3 z4 z5 z6 z7 z8 z9 z10 z11 e0 e1 e2 e3 e4 e5 e6 e7 e8 e9 e10 e11 el;generalize hW5:World.drew _=w9;obtain⟨R9,G9⟩:=Bq hR o _ w9 hW5.symm;clear hW5;have z0:=OpB.free R9 0;have z1:=OpB.free R9 1;have z2:=OpB.free R9 2;have z3:=OpB.free R9 3;have z4:=OpB.free R9 4;have z5:=OpB.free R9 5;have z6:=OpB.free R9 6;have z7:=OpB.free R9 7;have z8:=OpB.free R9 8;have z9:=OpB.free R9 9;have z10:=OpB.free R9 10;have z11:=OpB.free R9 11;have e0:World.cell? w9 ⟨w.heap.size,0,none⟩=_:=OpB.cell R9 0;have e1:World.cell? w9 ⟨w.heap.size,1,none⟩=_:=OpB.cell R9 1;have e2:World.cell? w9 ⟨w.heap.size,2,none⟩=_:=OpB.cell R9 2;have e3:World.cell? w9 ⟨w.heap.size,3,none⟩=_:=OpB.cell R9 3;have e4:World.cell? w9 ⟨w.heap.size,4,none⟩=_:=OpB.cell R9 4;have e5:World.cell? w9 ⟨w.heap.size,5,none⟩=_:=OpB.cell R9 5;have e6:World.cell? w9 ⟨w.heap.size,6,none⟩=_:=OpB.cell R9 6;have e7:World.cell? w9 ⟨w.heap.size,7,none⟩=_:=OpB.cell R9 7;have e8:World.cell? w9 ⟨w.heap.size,8,none⟩=_:=OpB.cell R9 8;have e9:World.cell? w9 ⟨w.heap.size,9,none⟩=_:=OpB.cell R9 9;have e10:World.cell? w9 ⟨w.heap.size,10,none⟩=_:=OpB.cell R9 10;have e11:World.cell? w9 ⟨w.heap.size,11,none⟩=_:=OpB.cell R9 11;have el:=OpB.lt R9;simp only[opL,List.getElem?_cons_zero,List.getElem?_cons_succ] at e0 e1 e2 e3 e4 e5 e6 e7 e8 e9 e10 e11;refine bodyPost_ret (v:=.tuple #[.agg (opL o (.slice Ap o.path.length cp)).toArray,.bool true]) (by simp[results,Tryz.results96,go_sem,opL,e0,e1,e2,e3,e4,e5,e6,e7,e8,e9,e10,e11]) rfl ?_;exact⟨o,Ap,cp,.inr ⟨rfl,⟨(fun _=>HRd.out.1 (by simp) HRR.out.symm),fun e=>by cases e⟩,((hSl.out).fr G9 (by intro g hg;injection hg with hg;omega)).mono (Nat.le_succ _),hOW.out,FF.new G9 (Nat.le_refl _)⟩⟩
  |cons x r=>
   have hlt:¬((r.length:Int)+1=0):=by omega
   have hlt2:((r.length:Int)+1 == 0)=false:=by rw[beq_eq_false_iff_ne];omega
   simp only[List.length_cons] at f0
   go_region
   go_wp2_with fail;clear z0 z1 z2 z3 z4 z5 z6 z7 z8 z9 z10 z11 e0 e1 e2 e3 e4 e5 e6 e7 e8 e9 e10 e11 el;generalize hW5:World.drew _=w9;obtain⟨R9,G9⟩:=Bq hR o _ w9 hW5.symm;clear hW5;have z0:=OpB.free R9 0;have z1:=OpB.free R9 1;have z2:=OpB.free R9 2;have z3:=OpB.free R9 3;have z4:=OpB.free R9 4;have z5:=OpB.free R9 5;have z6:=OpB.free R9 6;have z7:=OpB.free R9 7;have z8:=OpB.free R9 8;have z9:=OpB.free R9 9;have z10:=OpB.free R9 10;have z11:=OpB.free R9 11;have e0:World.cell? w9 ⟨w.heap.size,0,none⟩=_:=OpB.cell R9 0;have e1:World.cell? w9 ⟨w.heap.size,1,none⟩=_:=OpB.cell R9 1;have e2:World.cell? w9 ⟨w.heap.size,2,none⟩=_:=OpB.cell R9 2;have e3:World.cell? w9 ⟨w.heap.size,3,none⟩=_:=OpB.cell R9 3;have e4:World.cell? w9 ⟨w.heap.size,4,none⟩=_:=OpB.cell R9 4;have e5:World.cell? w9 ⟨w.heap.size,5,none⟩=_:=OpB.cell R9 5;have e6:World.cell? w9 ⟨w.heap.size,6,none⟩=_:=OpB.cell R9 6;have e7:World.cell? w9 ⟨w.heap.size,7,none⟩=_:=OpB.cell R9 7;have e8:World.cell? w9 ⟨w.heap.size,8,none⟩=_:=OpB.cell R9 8;have e9:World.cell? w9 ⟨w.heap.size,9,none⟩=_:=OpB.cell R9 9;have e10:World.cell? w9 ⟨w.heap.size,10,none⟩=_:=OpB.cell R9 10;have e11:World.cell? w9 ⟨w.heap.size,11,none⟩=_:=OpB.cell R9 11;have el:=OpB.lt R9;simp only[opL,List.getElem?_cons_zero,List.getElem?_cons_succ] at e0 e1 e2 e3 e4 e5 e6 e7 e8 e9 e10 e11;refine bodyPost_ret (v:=.tuple #[.agg (opL o (.slice Ap o.path.length cp)).toArray,.bool false]) (by simp[results,Tryz.results96,go_sem,opL,e0,e1,e2,e3,e4,e5,e6,e7,e8,e9,e10,e11]) rfl ?_;exact⟨o,Ap,cp,.inl ⟨rfl,⟨(fun e=>by cases e),fun _=>HRd.out.2 (.inr (by rw[←HRR.out];simp))⟩,((hSl.out).fr G9 (by intro g hg;injection hg with hg;omega)).mono (Nat.le_succ _),hOW.out,FF.new G9 (Nat.le_refl _)⟩⟩
def v0:List UInt8:=[50,32,49,32,53,32,112,51,44,49,48,44,45]
def t0:Txn:=⟨2,1,5,[⟨2,3,10,0,nat,nat,0,0,0,[]⟩]⟩
theorem xL:cS [t0]=0:=by decide+kernel
theorem xM:fK [t0]=v0:=by decide+kernel
theorem FO:rdS v0=([t0],0):=by
 rw[←xM];exact DH xL (by rw[xM];decide)
theorem Ht:fmS [t0]=(v0,0):=by
 unfold fmS;rw[xL,xM,if_neg (by simp),if_neg (by decide)]
theorem Gg:gJ (eO 124 v0)=some [t0]:=by
 have h:=FO;unfold rdS at h;rw[if_neg (by decide),if_neg (by decide)] at h;cases hA:gJ (eO 124 v0) with
 |none=>rw[hA] at h;cases h
 |some L=>
  rw[hA] at h;simp only at h;split at h
  ·have:=congrArg Prod.fst h;rw[show L=[t0] from this]
  cases h
theorem Gh:eO 124 v0=[v0]:=by
 have:v0=Lib.join [v0] [124]:=by decide+kernel
 conv=>lhs;rw[this]
 exact eQ 124 [v0] (by simp) (fun x hx=>by rw[List.mem_singleton.1 hx];intro b hb;revert b;decide)
theorem Ei:(eO 32 v0).drop 3=[[112,51,44,49,48,44,45]]:=by
 have:v0=Lib.join [[50],[49],[53],[112,51,44,49,48,44,45]] [32]:=by decide+kernel
 rw[this,eQ 32 _ (by simp) (fun x hx=>by
  simp only[List.mem_cons,List.not_mem_nil,or_false] at hx;rcases hx with rfl|rfl|rfl|rfl<;>(intro b hb;revert b;decide))]
 rfl
theorem Iw(v:List UInt8):RdC (112::v):=fun w hE hM hL hA=>xK v w hE hM hL hA
theorem Ix{o:Opr}(h:o.kind=2):TxC o:=fun x hx w hD hv hT=>Ah x w hD hv (by rw[hx];exact h) hT
theorem Iy:∀x ∈ eO 124 v0,TrC x:=fun x hx=>by
 rw[Gh,List.mem_singleton] at hx;subst hx;intro w hE hM hL hA hmx;refine Bv v0 w hE hM hL hA hmx (fun y hy=>?_);rw[Ei,List.mem_singleton] at hy;subst hy;exact Iw _
theorem Hu:∀t ∈ [t0],∀o ∈ t.ops,TxC o:=fun t ht o ho=>by
 rw[List.mem_singleton.1 ht] at ho;exact Ix (by unfold t0 at ho;rw[List.mem_singleton.1 ho])
theorem xN(w:World)(hE:Errs w)(hM:Mxl w)(hT:Tab w)(hmx:0<w.heap.size):Calls Tryz.prog 13 #[] w fun e w'=>e= .returned (.bool true)∧Fr none w w':=by
 have HT:=sH hT;clear hT;go_enter Tryz.func13,Tryz.ntmps13;go_wp2_with fail;refine(Am v0 w hE hM HT.out (by decide) hmx Iy (fun L hL=>by rw[Gg] at hL;injection hL with hL;subst hL;exact Hu)).mono ?_;rw[FO];rintro e w1 ⟨va,l,rfl,hS,hP,F1⟩;dsimp only at hP;have HP:=sH hP;obtain⟨x,rfl⟩:∃x,l=[x]:=by
  have h1:=congrArg List.length hP;unfold plT at h1;rw[List.length_map] at h1
  match l,h1 with
  |[x],_=>exact⟨x,rfl⟩
 have hx:x.src=2:=by
  have h2:[x.pl]=[t0]:=hP;injection h2 with h2
  have:=congrArg Txn.src h2;exact this
 have HX:=sH hx;have HS:=sH hS;obtain⟨A,c,hvv,q1,q2,hc⟩:=iO hS.1;subst hvv;have HT1:=sH (HT.out.fr F1);clear hP hx hS hE hM HT;obtain⟨b,off,rfl,hb,_,hcc⟩:=hc (by simp);obtain⟨d0,_,_,_⟩:=hcc 0 (by simp);simp only[List.getElem_cons_zero] at d0;rw[HX.out] at d0;simp only[Nat.zero_mul,Nat.add_zero] at d0;clear hc hcc;simp only[List.length_cons,List.length_nil] at q1 HS ⊢;go_wp2_with fail;refine(BV [x] _ w1 HS.out HT1.out (fun t ht y hy=>by have h1:plT [x]=[t0]:=HP.out;exact Hu t.pl (by rw[←h1];exact List.mem_map_of_mem ht) y.o (List.mem_map_of_mem hy))).mono ?_;rw[HP.out,Ht];rintro e w2 ⟨rfl,F2⟩;have d0:=F2.keep d0;have hs:((bL v0).toList == [50,32,49,32,53,32,112,51,44,49,48,44,45])=true:=by rw[bQ];rfl
 go_wp2_with fail;refine(lV [x] _ w2 (HS.out.fr F2)).mono ?_;rw[HP.out,xL];rintro e w3 ⟨rfl,F3⟩;go_wp2;go_ret;exact⟨rfl,(F1.pure F2).pure F3⟩
theorem rT(l:List Ln)(accs:List aQ)(v va:Value)(w:World)(h:SlR lnR w none v l)(ha:SlR aP w none va accs):Calls Tryz.prog 57 #[v,va] w fun e w'=>e= .returned (.int .i64 (bW l accs))∧Fr none w w':=by
 obtain⟨V,hV⟩:∃V,V=bW l accs:=⟨_,rfl⟩;rw[←hV];have HV:=sH hV;clear hV;obtain⟨A,c,rfl,q1,q2,hc⟩:=aU h;have HC:=sH hc;obtain⟨A2,c2,rfl,_,_,_⟩:=aN ha;have HAc:=sH ha;clear hc ha;obtain⟨CA,hCA⟩:∃CA,CA=cC accs:=⟨_,rfl⟩;have HCA:=sH hCA;clear hCA;by_cases hA:CA=0
 ·subst hA;by_cases hl:60<l.length
  ·have hd:decide ((60:Int)<(l.length:Int))=true:=decide_eq_true (by omega);have HX:Hid (V=3):=by unfold Hid;rw[HV.out];unfold bW;rw[if_neg (fun e=>e HCA.out.symm),if_pos hl]
   clear hl;go_enter Tryz.func57,Tryz.ntmps57;go_wp2_with fail;refine(iU accs _ w HAc.out).mono ?_;rintro e w1 ⟨rfl,F1⟩;rw[←HCA.out];go_wp2;go_ret;exact⟨aM HX.out.symm,F1⟩
  have hd:decide ((60:Int)<(l.length:Int))=false:=decide_eq_false (by omega);have HVl:Hid (V=if bV (iK accs) none l=true then 0 else 74):=by unfold Hid;rw[HV.out];unfold bW;rw[if_neg (fun e=>e HCA.out.symm),if_neg hl]
  clear hl HV;go_enter Tryz.func57,Tryz.ntmps57;go_wp2_with fail;refine(iU accs _ w HAc.out).mono ?_;rintro e w1 ⟨rfl,F1⟩;rw[←HCA.out];go_wp2_with fail;go_loopw [20] (fun s20 wr=>∃j:Nat,j≤l.length∧s20= .int .i64 (j:Int)∧Hid (∀k (hk:k<l.length),k<j→iK accs (bK l k) l[k]=true)∧Fr none w1 wr) (fun s20 _=>l.length - (intOf s20).toNat)
  case atStart=>exact⟨0,by omega,rfl,fun k _ hk=>by omega,Fr.refl _ _⟩
  case round=>
   obtain⟨j,hj,rfl,HJ,F⟩:=hrel;obtain⟨wz,hwz⟩:∃wz:World,wz=wr:=⟨_,rfl⟩;subst hwz;have F0z:=F1.pure F;by_cases hlt:j<l.length
   ·obtain⟨b,off,rfl,hb,_,hcc⟩:=HC.out (by omega);obtain⟨c1,c2,c3,c4,c5⟩:=hcc j hlt;have c1:=F0z.keep c1;have c2:=F0z.keep c2;have c3:=F0z.keep c3;have c4:=F0z.keep c4;have c5:=F0z.keep c5;have HNo:Hid (iK accs (bK l j) l[j]=false→V=74):=fun h=>by rw[HVl.out,if_neg (by rw[gC hlt h];simp)]
    have HYes:Hid (iK accs (bK l j) l[j]=true→∀k (hk:k<l.length),k<j+1→iK accs (bK l k) l[k]=true):=fun h k hk hkj=>by
     rcases Nat.lt_or_ge k j with hh|hh
     ·exact HJ.out k hk hh
     obtain rfl:k=j:=by omega
     exact h
    obtain⟨m,hm,hml⟩:∃m,(0<j→j=m+1)∧m<l.length:=⟨j - 1,by omega,by omega⟩;obtain⟨d1,d2,d3,d4,d5⟩:=hcc m hml;have d1:=F0z.keep d1;have d2:=F0z.keep d2;have d3:=F0z.keep d3;have d4:=F0z.keep d4;have d5:=F0z.keep d5;have hwr:0<j→IntKind.i64.wrap ((j:Int) - 1)=(m:Int):=fun h=>by have:=hm h;rw[IntKind.wrap_i64];omega
    have hml':(m:Int)<(l.length:Int):=by omega
    have hbg:=yI (A:=accs) (x:=l[j]) hm (List.getElem?_eq_getElem hml);rw[←Eu] at hbg;have HB:=sH hbg;clear hbg;clear hcc HJ hm;generalize l[j]=x at*
    generalize l[m]=y at*
    go_upto_region 9 with(fail)
    generalize hW:wz.alloc _=wy;have Fy:Fr none wz wy:=hW▸(Fr.refl none wz).alloc _;have b4:wy.heap[wz.heap.size]?=some (.cells #[.int .i64 x.acc,.string (bL x.ast.code),.int .i64 x.ast.iss,.int .i64 x.bal,.int .i64 x.lim] 74 (0,0)):=by rw[←hW];exact aD _ _
    have r1:wy.cell? ⟨wz.heap.size,0,none⟩=some (.int .i64 x.acc):=by rw[aA b4];rfl
    have l4:=aC b4;clear hW c1 c2 c3 c4 c5;go_wp2_with fail;refine(gW accs _ x.acc wy (HAc.out.fr (F0z.pure Fy))).mono ?_;rintro e wf ⟨rfl,Ff⟩;have hfs:=dY accs x.acc;generalize dR accs x.acc=R at*
    obtain⟨⟨f1,f2,f3⟩,FB⟩:=R;have HFB:Hid (FB=(aK accs x.acc).isSome):=hfs;clear hfs r1 l4;have b4:=aF b4 Ff (by simp);go_upto_region 10 with(fail)
    generalize hW:wf.alloc _=wa;have Fb:Fr none wf wa:=hW▸(Fr.refl none wf).alloc _;clear hW;have Fa:=Fy.pure (Ff.pure Fb);have b4:=aF b4 Fb (by simp);have HS:Hid (∀W,Fr none wa W→(W.cell? ⟨b,off+m*5,none⟩=some (.int .i64 y.acc)∧W.cell? ⟨b,off+m*5+1,none⟩=some (.string (bL y.ast.code))∧W.cell? ⟨b,off+m*5+2,none⟩=some (.int .i64 y.ast.iss)∧W.cell? ⟨b,off+m*5+3,none⟩=some (.int .i64 y.bal)∧W.cell? ⟨b,off+m*5+4,none⟩=some (.int .i64 y.lim))∧W.cell? ⟨wz.heap.size,0,none⟩=some (.int .i64 x.acc)∧W.cell? ⟨wz.heap.size,1,none⟩=some (.string (bL x.ast.code))∧W.cell? ⟨wz.heap.size,2,none⟩=some (.int .i64 x.ast.iss)∧W.cell? ⟨wz.heap.size,3,none⟩=some (.int .i64 x.bal)∧W.cell? ⟨wz.heap.size,4,none⟩=some (.int .i64 x.lim)):=fun W FW=>by
     have:=aF b4 FW (by simp);have FK:=Fa.pure FW;exact⟨⟨FK.keep d1,FK.keep d2,FK.keep d3,FK.keep d4,FK.keep d5⟩,by rw[aA this];rfl,by rw[aA this];rfl,by rw[aA this];rfl,by rw[aA this];rfl,by rw[aA this];rfl⟩
    rw[←HFB.out] at HB;clear b4 Fy Ff Fb d1 d2 d3 d4 d5 HFB;refine aL (fun W=>Fr none wa W) 55 88 [some 86,some 85,some 84,some 83,some 82,some 81,some 80,some 79,some 78,some 77,some 76,some 75,some 74,some 73,some 72,some 71,some 70,some 69,some 68,some 67,some 66,some 65,some 64,some 63,some 62,some 61,some 60,some 59,some 58,some 57,some 56,some 55,some 54,some 53,some 52,some 51,some 50,some 49,some 48,some 47,some 46,some 45,some 44,some 43,some 42,some 41,some 40,some 39,some 38,some 37,some 36,some 35,some 34,some 33,some 32] (by kernel_rfl) (by kernel_rfl) (by kernel_rfl) (Nat.le_refl _) ((Fr.refl _ _).drew) ?_;refine FxL.p [] [9] ?_;refine FxL.p [(0,0,32)] [] ?_;refine FxL.p [(0,1,33)] [] ?_;refine FxL.x 0 [] [7] ?_;have HF1:=sH (fun(w:World) (hS:(fun W=>Fr none wa W) w)=>HS.out w hS);refine FxL.xq HF1.out 1 [(0,3,35)] [] ?_;refine FxL.gwc (u:=?_) (f:=?_) (args:=?_) rfl 2 rfl (by simp only[aG]<;>rfl) (fun hg ev w hS E=>?_) (fun hg w hS=>?_) ?_;rotate_left 3
    ·obtain⟨⟨k1,k2,k3,k4,k5⟩,k6,k7,k8,k9,k10⟩:=HS.out w hS;obtain⟨t36,ec,ef,eg⟩:=E.get [(0,4,36)] [] (by kernel_rfl);clear E;simp only[aG] at t36
     (try simp only[hg,bG] at t36);go_simp;first|(refine And.intro ?_ ?_<;>with_reducible rfl)|with_reducible rfl
    ·obtain⟨⟨k1,k2,k3,k4,k5⟩,k6,k7,k8,k9,k10⟩:=HS.out w hS;refine(bT x.ast w).mono ?_;rintro e w2 ⟨rfl,F2⟩;refine⟨?_,hS.pure F2⟩;with_reducible rfl
    refine FxL.x 3 [(0,5,37)] [] ?_;refine FxL.por rfl rfl 4 2 0 6 (by kernel_rfl) rfl rfl ?_;refine FxL.p [(0,7,39)] [] ?_;refine FxL.x 0 [] [7] ?_;refine FxL.xq HF1.out 1 [(0,9,41)] [] ?_;refine FxL.gwc (u:=?_) (f:=?_) (args:=?_) rfl 2 rfl (by simp only[aG]<;>rfl) (fun hg ev w hS E=>?_) (fun hg w hS=>?_) ?_;rotate_left 3
    ·obtain⟨⟨k1,k2,k3,k4,k5⟩,k6,k7,k8,k9,k10⟩:=HS.out w hS;obtain⟨t42,ec,ef,eg⟩:=E.get [(0,10,42)] [] (by kernel_rfl);clear E;simp only[aG] at t42
     (try simp only[hg,bG] at t42);go_simp;first|(refine And.intro ?_ ?_<;>with_reducible rfl)|with_reducible rfl
    ·obtain⟨⟨k1,k2,k3,k4,k5⟩,k6,k7,k8,k9,k10⟩:=HS.out w hS;refine(eA x.ast w).mono ?_;rintro e w2 ⟨rfl,F2⟩;refine⟨?_,hS.pure F2⟩;with_reducible rfl
    refine FxL.por rfl rfl 3 8 0 11 (by kernel_rfl) rfl rfl ?_;refine FxL.p [(0,12,44)] [] ?_;refine FxL.x 0 [] [7] ?_;refine FxL.x 1 [(0,14,46)] [] ?_;refine FxL.xq HF1.out 2 [(0,15,47)] [] ?_;refine FxL.x 3 [] [7] ?_;refine FxL.xq HF1.out 4 [(0,17,49)] [] ?_;refine FxL.x 5 [(2,16,48),(0,18,50)] [] ?_;refine FxL.por rfl rfl 6 13 0 19 (by kernel_rfl) rfl rfl ?_;refine FxL.p [(0,20,52)] [] ?_;refine FxL.x 0 [] [7] ?_;refine FxL.xq HF1.out 1 [(0,22,54)] [] ?_;refine FxL.gwc (u:=?_) (f:=?_) (args:=?_) rfl 2 rfl (by simp only[aG]<;>rfl) (fun hg ev w hS E=>?_) (fun hg w hS=>?_) ?_;rotate_left 3
    ·obtain⟨⟨k1,k2,k3,k4,k5⟩,k6,k7,k8,k9,k10⟩:=HS.out w hS;obtain⟨t55,ec,ef,eg⟩:=E.get [(0,23,55)] [] (by kernel_rfl);clear E;simp only[aG] at t55
     (try simp only[hg,bG] at t55);go_simp;first|(refine And.intro ?_ ?_<;>with_reducible rfl)|with_reducible rfl
    ·obtain⟨⟨k1,k2,k3,k4,k5⟩,k6,k7,k8,k9,k10⟩:=HS.out w hS;refine(cJ x.lim w).mono ?_;rintro e w2 ⟨rfl,rfl⟩;refine⟨?_,hS⟩;with_reducible rfl
    refine FxL.x 3 [(0,24,56)] [] ?_;refine FxL.por rfl rfl 4 21 0 25 (by kernel_rfl) rfl rfl ?_;refine FxL.p [(0,26,58)] [] ?_;refine FxL.x 0 [] [7] ?_;refine FxL.xq HF1.out 1 [(0,28,60)] [] ?_;refine FxL.x 2 [(0,29,61)] [] ?_;refine FxL.por rfl rfl 3 27 0 30 (by kernel_rfl) rfl rfl ?_;refine FxL.p [(0,31,63)] [] ?_;refine FxL.x 0 [] [7] ?_;refine FxL.xq HF1.out 1 [(0,33,65)] [] ?_;refine FxL.x 2 [] [7] ?_;refine FxL.xq HF1.out 3 [(0,35,67)] [] ?_;refine FxL.x 4 [(2,34,66),(0,36,68)] [] ?_;refine FxL.por rfl rfl 5 32 0 37 (by kernel_rfl) rfl rfl ?_;refine FxL.p [(0,38,70)] [] ?_;refine FxL.x 0 [] [6] ?_;refine FxL.x 1 [(0,40,72)] [] ?_;refine FxL.x 2 [(0,41,73)] [] ?_;refine FxL.x 0 [] [0] ?_;refine FxL.x 1 [] [6] ?_;refine FxL.gw (u:=?_) rfl 2 rfl (by simp only[aG]<;>rfl) (fun hg ev w hS E=>?_) ?_;rotate_left
    ·obtain⟨t76,ec,ef,eg⟩:=E.get [(0,44,76)] [] (by kernel_rfl);clear E;simp only[aG] at t76
     (try simp only[hg,bG] at t76)
     have hd:=of_decide_eq_true (iC hg).2;have hw:=hwr (by omega);go_simp;try with_reducible rfl
    refine FxL.xq HF1.out 3 [(2,43,75),(0,45,77)] [] ?_;refine FxL.xq HF1.out 4 [(0,46,78)] [] ?_;refine FxL.gwc (u:=?_) (f:=?_) (args:=?_) rfl 5 rfl (by simp only[aG]<;>rfl) (fun hg ev w hS E=>?_) (fun hg w hS=>?_) ?_;rotate_left 3
    ·obtain⟨⟨k1,k2,k3,k4,k5⟩,k6,k7,k8,k9,k10⟩:=HS.out w hS;obtain⟨t79,ec,ef,eg⟩:=E.get [(0,47,79)] [] (by kernel_rfl);clear E;simp only[aG] at t79
     (try simp only[hg,bG] at t79);go_simp;first|(refine And.intro ?_ ?_<;>with_reducible rfl)|with_reducible rfl
    ·obtain⟨⟨k1,k2,k3,k4,k5⟩,k6,k7,k8,k9,k10⟩:=HS.out w hS;refine(oE y w).mono ?_;rintro e w2 ⟨rfl,F2⟩;refine⟨?_,hS.pure F2⟩;with_reducible rfl
    refine FxL.xq HF1.out 6 [] [7] ?_;refine FxL.gwc (u:=?_) (f:=?_) (args:=?_) rfl 7 rfl (by simp only[aG]<;>rfl) (fun hg ev w hS E=>?_) (fun hg w hS=>?_) ?_;rotate_left 3
    ·obtain⟨⟨k1,k2,k3,k4,k5⟩,k6,k7,k8,k9,k10⟩:=HS.out w hS;obtain⟨t81,ec,ef,eg⟩:=E.get [(0,49,81)] [] (by kernel_rfl);clear E;simp only[aG] at t81
     (try simp only[hg,bG] at t81);go_simp;first|(refine And.intro ?_ ?_<;>with_reducible rfl)|with_reducible rfl
    ·obtain⟨⟨k1,k2,k3,k4,k5⟩,k6,k7,k8,k9,k10⟩:=HS.out w hS;refine(oE x w).mono ?_;rintro e w2 ⟨rfl,F2⟩;refine⟨?_,hS.pure F2⟩;with_reducible rfl
    refine FxL.gwc (u:=?_) (f:=?_) (args:=?_) rfl 8 rfl (by simp only[aG]<;>rfl) (fun hg ev w hS E=>?_) (fun hg w hS=>?_) ?_;rotate_left 3
    ·obtain⟨⟨k1,k2,k3,k4,k5⟩,k6,k7,k8,k9,k10⟩:=HS.out w hS;obtain⟨t80,t82,ec,ef,eg⟩:=E.get [(2,48,80),(0,50,82)] [] (by kernel_rfl);clear E;simp only[aG] at t80 t82
     (try simp only[hg,bG] at t80 t82);go_simp;first|(refine And.intro ?_ ?_<;>with_reducible rfl)|with_reducible rfl
    ·obtain⟨⟨k1,k2,k3,k4,k5⟩,k6,k7,k8,k9,k10⟩:=HS.out w hS;refine(vV y x.acc x.ast w).mono ?_;rintro e w2 ⟨rfl,F2⟩;refine⟨?_,hS.pure F2⟩;with_reducible rfl
    refine FxL.x 9 [(0,51,83)] [] ?_;refine FxL.gpand rfl rfl 13 rfl (by simp only[aG]<;>rfl) 10 42 0 52 (by kernel_rfl) rfl rfl ?_;refine FxL.por rfl rfl 14 39 0 53 (by kernel_rfl) rfl rfl ?_;refine FxL.done (fun W hW=>?_);simp only[bF];try simp only[sI]
    try simp only[sK]
    generalize hb:(!FB|| !aV x.ast||decide (x.ast=nat)||(x.ast.iss == x.acc)|| !aX x.lim||decide (x.bal<0)||decide (x.lim<x.bal)||(decide (0<j)&&decide (0≤qF y x.acc x.ast)))=big at HB ⊢;have HX:=HB.out;clear hb HB;have FF:=F.pure (Fa.pure hW);have FF0:=F0z.pure (Fa.pure hW);cases big with
    |true=>
     have HX:=sH (HNo.out HX);go_wp2;go_ret;exact⟨aM HX.out.symm,FF0⟩
    |false=>
     have HX:=sH (HYes.out HX);go_wp2_with fail;go_roundw
     case rel=>exact⟨_,hlt,by go_num,HX.out,FF⟩
     case measure=>simp[intOf];omega
   have HX:Hid (V=0):=by
    unfold Hid;rw[HVl.out,if_pos (eZ fun k hk=>HJ.out k hk (by omega))]
   go_wp2;go_ret;exact⟨aM HX.out.symm,F0z⟩
 have HX:Hid (V=CA):=by unfold Hid;rw[HV.out];unfold bW;rw[if_pos (fun e=>hA (by rw[HCA.out,e])),HCA.out]
 have hq:(CA == 0)=false:=by rw[beq_eq_false_iff_ne];exact hA
 clear hA;go_enter Tryz.func57,Tryz.ntmps57;go_wp2_with fail;refine(iU accs _ w HAc.out).mono ?_;rintro e w1 ⟨rfl,F1⟩;rw[←HCA.out];go_wp2;go_ret;exact⟨aM HX.out.symm,F1⟩
def LgB(w:World)(b:Nat)(g:Lgr)(va vl vo:Value):Prop:=w.heap[b]?=some (.cells #[.int .i64 g.num,va,vl,vo,.int .i64 g.nid,.int .i64 g.fees,.int .u64 (g.link:Int)] 30 (0,0))
theorem LgB.fr{w w':World}{b:Nat}{g:Lgr}{va vl vo:Value}{r:Option Nat}(h:LgB w b g va vl vo)(f:Fr r w w')(hr:r≠some b:=by simp):LgB w' b g va vl vo:=aF h f hr
theorem LgB.cells{w:World}{b:Nat}{g:Lgr}{va vl vo:Value}(h:LgB w b g va vl vo):w.cell? ⟨b,0,none⟩=some (.int .i64 g.num)∧w.cell? ⟨b,1,none⟩=some va∧w.cell? ⟨b,2,none⟩=some vl∧w.cell? ⟨b,3,none⟩=some vo∧w.cell? ⟨b,4,none⟩=some (.int .i64 g.nid)∧w.cell? ⟨b,5,none⟩=some (.int .i64 g.fees)∧w.cell? ⟨b,6,none⟩=some (.int .u64 (g.link:Int)):=by
 refine⟨?_,?_,?_,?_,?_,?_,?_⟩<;>(rw[aA h];rfl)
theorem cW(w:World)(o1 o2:Obj):Fr none w ((w.alloc o1).alloc o2)∧((w.alloc o1).alloc o2).heap[w.heap.size]?=some o1∧((w.alloc o1).alloc o2).heap[w.heap.size+1]?=some o2:=by
 have s1:(w.alloc o1).heap.size=w.heap.size+1:=Array.size_push _;refine⟨((Fr.refl none w).alloc _).alloc _,aF (aD w o1) ((Fr.refl none _).alloc _) (by simp),?_⟩;have:=aD (w.alloc o1) o2
 rwa [s1] at this
theorem eS(w:World)(o1 o2 o3:Obj):Fr none w (((w.alloc o1).alloc o2).alloc o3)∧(((w.alloc o1).alloc o2).alloc o3).heap[w.heap.size]?=some o1∧(((w.alloc o1).alloc o2).alloc o3).heap[w.heap.size+1]?=some o2∧(((w.alloc o1).alloc o2).alloc o3).heap[w.heap.size+2]?=some o3:=by
 obtain⟨h1,h2,h3⟩:=cW w o1 o2;have s2:((w.alloc o1).alloc o2).heap.size=w.heap.size+2:=by
  show((w.heap.push o1).push o2).size=_;rw[Array.size_push,Array.size_push]
 refine⟨h1.alloc _,aF h2 ((Fr.refl none _).alloc _) (by simp),aF h3 ((Fr.refl none _).alloc _) (by simp),?_⟩;have:=aD ((w.alloc o1).alloc o2) o3
 rwa [s2] at this
theorem pU(g:Lgr)(va vl vo:Value)(w:World)(h:LgS w none g va vl vo):Calls Tryz.prog 153 #[.agg #[.int .i64 g.num,va,vl,vo,.int .i64 g.nid,.int .i64 g.fees,.int .u64 (g.link:Int)]] w fun e w'=>e= .returned (.bool (decide (bW g.lines g.accs=0)))∧Fr none w w':=by
 obtain⟨h1,h2,_⟩:=h;obtain⟨A1,c1,rfl,_,_,_⟩:=aN h1;obtain⟨A2,c2,rfl,_,_,_⟩:=aU h2;have H1:=sH h1;have H2:=sH h2;clear h1 h2;go_enter Tryz.func153,Tryz.ntmps153;go_upto_region 1 with(fail)
 generalize hW:w.alloc _=w1;have F1:Fr none w w1:=hW▸(Fr.refl none w).alloc _;have b1:LgB w1 w.heap.size g (.slice A1 g.accs.length c1) (.slice A2 g.lines.length c2) vo:=by rw[←hW];exact aD _ _
 obtain⟨r0,r1,r2,r3,r4,r5,r6⟩:=b1.cells;have l1:=aC b1;clear hW b1;go_wp2_with fail;refine(rT g.lines g.accs _ _ w1 (H2.out.fr F1) (H1.out.fr F1)).mono ?_;rintro e w2 ⟨rfl,F2⟩;go_wp2;go_ret;exact⟨aJ fE,F1.pure F2⟩
theorem rX(l:List Ln)(acc:Int)(a:Ast):(fP l acc a).2=(bS l acc a).isSome:=by
 unfold fP;cases bS l acc a<;>rfl
theorem mX(g:Lgr)(va vl vo:Value)(acc:Int)(a:Ast)(w:World)(h:LgS w none g va vl vo)(hk:bW g.lines g.accs=0):Calls Tryz.prog 154 #[.agg #[.int .i64 g.num,va,vl,vo,.int .i64 g.nid,.int .i64 g.fees,.int .u64 (g.link:Int)],.int .i64 acc,.agg #[.string (bL a.code),.int .i64 a.iss]] w fun e w'=>e= .returned (.tuple #[.agg #[.int .i64 (bN g acc a).1.1,.int .i64 (bN g acc a).1.2],.bool (bN g acc a).2])∧Fr none w w':=by
 obtain⟨V,hV⟩:∃V,V=bN g acc a:=⟨_,rfl⟩;rw[←hV];have HV:=sH hV;have HLK:=sH hk;clear hV hk;obtain⟨A1,c1,rfl, -, -, -⟩:=aN h.1;obtain⟨A2,c2,rfl, -, -, -⟩:=aU h.2.1;obtain⟨A3,c3,rfl, -, -, -⟩:=bA h.2.2.1;have HG:=sH h;clear h;go_enter Tryz.func154,Tryz.ntmps154;go_upto_region 1 with(fail)
 generalize hW:((w.alloc _).alloc _).alloc _=w1;obtain⟨F1,b1,b2,b3⟩:Fr none w w1∧LgB w1 w.heap.size g (.slice A1 g.accs.length c1) (.slice A2 g.lines.length c2) (.slice A3 g.offers.length c3)∧dK w1 (w.heap.size+1) a∧w1.heap[w.heap.size+2]?=some (.cells #[.int .i64 0,.int .i64 0] 194 (0,0)):=by rw[←hW];exact eS w _ _ _
 clear hW;have HK:Hid (∀W,Fr none w1 W→(W.cell? ⟨w.heap.size,0,none⟩=some (.int .i64 g.num)∧W.cell? ⟨w.heap.size,1,none⟩=some (.slice A1 g.accs.length c1)∧W.cell? ⟨w.heap.size,2,none⟩=some (.slice A2 g.lines.length c2)∧W.cell? ⟨w.heap.size,3,none⟩=some (.slice A3 g.offers.length c3)∧W.cell? ⟨w.heap.size,4,none⟩=some (.int .i64 g.nid)∧W.cell? ⟨w.heap.size,5,none⟩=some (.int .i64 g.fees)∧W.cell? ⟨w.heap.size,6,none⟩=some (.int .u64 (g.link:Int)))∧(W.cell? ⟨w.heap.size+1,0,none⟩=some (.string (bL a.code))∧W.cell? ⟨w.heap.size+1,1,none⟩=some (.int .i64 a.iss))∧W.cell? ⟨w.heap.size+2,0,none⟩=some (.int .i64 0)∧W.cell? ⟨w.heap.size+2,1,none⟩=some (.int .i64 0)):=fun W FW=>by
  have q3:=aF b3 FW (by simp);exact⟨(b1.fr FW).cells,(b2.fr FW).cells,by rw[aA q3];rfl,by rw[aA q3];rfl⟩
 have HY:Hid (∀W,Fr none w1 W→∀i,W.frozen? ⟨w.heap.size+2,i,none⟩=false):=fun W FW i=>aB (aF b3 FW (by simp)) i;clear b1 b2 b3;obtain⟨⟨k0,k1,k2,k3,k4,k5,k6⟩,⟨k7,k8⟩,z0,z1⟩:=HK.out w1 (Fr.refl _ _);have y0:=HY.out w1 (Fr.refl _ _) 0;have y1:=HY.out w1 (Fr.refl _ _) 1;go_wp2_with fail;refine(gW g.accs _ acc w1 (HG.out.1.fr F1)).mono ?_;rintro e w2 ⟨rfl,F2⟩;have hfs:=dY g.accs acc;have hff:∀x,aK g.accs acc=some x→(dR g.accs acc).1=x:=fun x e=>by unfold dR;rw[e]
 generalize dR g.accs acc=R at*
 obtain⟨⟨f1,f2,f3⟩,FB⟩:=R;have HFB:Hid (FB=(aK g.accs acc).isSome):=hfs;have HFF:Hid (∀x,aK g.accs acc=some x→f2=x.bal):=fun x e=>by rw[←hff x e]
 clear hfs hff;clear k0 k1 k2 k3 k4 k5 k6 k7 k8 z0 z1 y0 y1;go_upto_region 2 with(fail)
 generalize hW:w2.alloc _=w3;have F3:Fr none w2 w3:=hW▸(Fr.refl none w2).alloc _;have b7:w3.heap[w2.heap.size]?=some (.cells #[.int .i64 f1,.int .i64 f2,.int .i64 f3] 59 (0,0)):=by rw[←hW];exact aD _ _
 have q0:w3.cell? ⟨w2.heap.size,0,none⟩=some (.int .i64 f1):=by rw[aA b7];rfl
 have q1:w3.cell? ⟨w2.heap.size,1,none⟩=some (.int .i64 f2):=by rw[aA b7];rfl
 clear hW;have F03:=F2.pure F3;obtain⟨⟨k0,k1,k2,k3,k4,k5,k6⟩,⟨k7,k8⟩,z0,z1⟩:=HK.out w3 F03;have y0:=HY.out w3 F03 0;have y1:=HY.out w3 F03 1;cases FB with
 |false=>
  have HX:Hid (V=((0,0),false)):=by
   unfold Hid;rw[HV.out];unfold bN;cases hq:aK g.accs acc with
   |none=>rfl
   |some x=>have:=HFB.out;rw[hq] at this;cases this
  clear b7 F3 F2;go_wp2;refine bodyPost_ret (v:=.tuple #[.agg #[.int .i64 0,.int .i64 0],.bool false]) (by simp[results,Tryz.results154,go_sem,z0,z1]) rfl ?_;have F9:=(Fr.set1 w3 ⟨w.heap.size+2,0,none⟩ (.int .i64 0)).same (Fr.set1 _ ⟨w.heap.size+2,1,none⟩ (.int .i64 0));exact⟨by rw[HX.out],(F1.pure F03).own F9⟩
 |true=>
  obtain⟨x,hx⟩:∃x,aK g.accs acc=some x:=by
   cases hq:aK g.accs acc with
   |none=>have:=HFB.out;rw[hq] at this;cases this
   |some x=>exact⟨x,rfl⟩
  have hb:=HFF.out x hx;subst hb;have hbal:=pR HLK.out hx;have HVx:Hid (V=if aV a=false then((0,0),false) else if a=nat then((x.bal,1000000000000 - x.bal),true) else if a.iss=acc then((1000000000000,1000000000000),true) else match bS g.lines acc a with
   |some l=>((l.bal,l.lim - l.bal),true)
   |none=>((0,0),false)):=by
   unfold Hid;rw[HV.out];unfold bN;rw[hx];rfl
  have hw1:wrap64 (1000000000000 - x.bal)=1000000000000 - x.bal:=fV (by omega) (by omega);clear HV hx hbal HFB HFF q0 q1;go_wp2_with fail;refine(bT a w3).mono ?_;rintro e w4 ⟨rfl,F4⟩;clear k0 k1 k2 k3 k4 k5 k6 k7 k8 z0 z1 y0 y1;have F04:=F03.pure F4;have b7:=aF b7 F4 (by simp);generalize aV a=va at*
  obtain⟨⟨k0,k1,k2,k3,k4,k5,k6⟩,⟨k7,k8⟩,z0,z1⟩:=HK.out w4 F04;have y0:=HY.out w4 F04 0;have y1:=HY.out w4 F04 1;cases va with
  |false=>
   have HX:Hid (V=((0,0),false)):=HVx.out.trans (if_pos rfl);clear b7 F3 F2;go_wp2;refine bodyPost_ret (v:=.tuple #[.agg #[.int .i64 0,.int .i64 0],.bool false]) (by simp[results,Tryz.results154,go_sem,z0,z1]) rfl ?_;have F9:=(Fr.set1 w4 ⟨w.heap.size+2,0,none⟩ (.int .i64 0)).same (Fr.set1 _ ⟨w.heap.size+2,1,none⟩ (.int .i64 0));exact⟨by rw[HX.out],(F1.pure F04).own F9⟩
  |true=>
   have HVx:=sH (HVx.out.trans (if_neg (by simp)));go_wp2_with fail;refine(eA a w4).mono ?_;rintro e w5 ⟨rfl,F5⟩;clear k0 k1 k2 k3 k4 k5 k6 k7 k8 z0 z1 y0 y1;have F05:=F04.pure F5;have b7:=aF b7 F5 (by simp);obtain⟨⟨k0,k1,k2,k3,k4,k5,k6⟩,⟨k7,k8⟩,z0,z1⟩:=HK.out w5 F05;have y0:=HY.out w5 F05 0;have y1:=HY.out w5 F05 1;have q1:w5.cell? ⟨w2.heap.size,1,none⟩=some (.int .i64 x.bal):=by rw[aA b7];rfl
   have l7:=aC b7;clear b7;by_cases hn:a=nat
   ·have HX:Hid (V=((x.bal,1000000000000 - x.bal),true)):=HVx.out.trans (if_pos hn);rw[decide_eq_true hn];clear hn F3 F2;go_wp2;refine bodyPost_ret (v:=.tuple #[.agg #[.int .i64 x.bal,.int .i64 (1000000000000 - x.bal)],.bool true]) (by simp[results,Tryz.results154,go_sem,z0,z1]) rfl ?_;have F9:=(Fr.set1 w5 ⟨w.heap.size+2,0,none⟩ (.int .i64 x.bal)).same (Fr.set1 _ ⟨w.heap.size+2,1,none⟩ (.int .i64 (1000000000000 - x.bal)));exact⟨by rw[HX.out],(F1.pure F05).own F9⟩
   have HVx:=sH (HVx.out.trans (if_neg hn));rw[decide_eq_false hn];clear hn F3 F2 q1;by_cases hi:a.iss=acc
   ·have HX:Hid (V=((1000000000000,1000000000000),true)):=HVx.out.trans (if_pos hi);have hd:(a.iss == acc)=true:=by rw[fE,decide_eq_true hi]
    clear hi;go_wp2;refine bodyPost_ret (v:=.tuple #[.agg #[.int .i64 1000000000000,.int .i64 1000000000000],.bool true]) (by simp[results,Tryz.results154,go_sem,z0,z1]) rfl ?_;have F9:=(Fr.set1 w5 ⟨w.heap.size+2,0,none⟩ (.int .i64 1000000000000)).same (Fr.set1 _ ⟨w.heap.size+2,1,none⟩ (.int .i64 1000000000000));exact⟨by rw[HX.out],(F1.pure F05).own F9⟩
   have HVx:=sH (HVx.out.trans (if_neg hi));have hd:(a.iss == acc)=false:=by rw[fE,decide_eq_false hi]
   clear hi;go_wp2_with fail;refine(rS g.lines _ acc a w5 (HG.out.2.1.fr (F1.pure F05))).mono ?_;rintro e w6 ⟨rfl,F6⟩;have hfs:=rX g.lines acc a;have hff:∀x,bS g.lines acc a=some x→(fP g.lines acc a).1=x:=fun x e=>by unfold fP;rw[e]
   have hfz:bS g.lines acc a=none→(fP g.lines acc a).1=ln0:=fun e=>by unfold fP;rw[e]
   generalize fP g.lines acc a=R at*
   obtain⟨y,FB⟩:=R;have HFB:Hid (FB=(bS g.lines acc a).isSome):=hfs;have HFF:Hid (∀x,bS g.lines acc a=some x→y=x):=hff;have HFZ:Hid (bS g.lines acc a=none→y=ln0):=hfz;clear hfs hff hfz;simp only[lnV];clear k0 k1 k2 k3 k4 k5 k6 k7 k8 z0 z1 y0 y1;have F06:=F05.pure F6;have hr:(0≤y.bal∧y.bal≤1000000000000)∧0≤y.lim∧y.lim≤1000000000000∧V=((y.bal,y.lim - y.bal),FB):=by
    cases hq:bS g.lines acc a with
    |none=>
     have e1:=HFZ.out hq;have e2:=HFB.out;rw[hq] at e2;rw[e1,HVx.out,hq,e2];simp[ln0]
    |some l=>
     have e1:=HFF.out l hq;have e2:=HFB.out;rw[hq] at e2;have:=pQ HLK.out hq;rw[e1,HVx.out,hq,e2];refine⟨by omega,by omega,by omega,rfl⟩
   obtain⟨r1,r2,r3,r4⟩:=hr;have HX:=sH r4;have hw2:wrap64 (y.lim - y.bal)=y.lim - y.bal:=fV (by omega) (by omega);clear r4 r1 r2 r3 HVx HFB HFF HFZ;go_upto_region 9 with(fail)
   generalize hW:w6.alloc _=w7;have F7:Fr none w6 w7:=hW▸(Fr.refl none w6).alloc _;have b8:LnB w7 w6.heap.size y:=by rw[←hW];exact aD _ _
   obtain⟨e0,e1,e2,e3,e4⟩:=b8.cells;have l8:=aC b8;clear hW b8;have F07:=F06.pure F7;obtain⟨⟨k0,k1,k2,k3,k4,k5,k6⟩,⟨k7,k8⟩,z0,z1⟩:=HK.out w7 F07;have y0:=HY.out w7 F07 0;have y1:=HY.out w7 F07 1;go_wp2;refine bodyPost_ret (v:=.tuple #[.agg #[.int .i64 y.bal,.int .i64 (y.lim - y.bal)],.bool FB]) (by simp[results,Tryz.results154,go_sem,z0,z1]) rfl ?_;have F9:=(Fr.set1 w7 ⟨w.heap.size+2,0,none⟩ (.int .i64 y.bal)).same (Fr.set1 _ ⟨w.heap.size+2,1,none⟩ (.int .i64 (y.lim - y.bal)));exact⟨by rw[HX.out],(F1.pure F07).own F9⟩
theorem Hx{p:Prop}(h:p:=by
 have HX:=sH hX;have HR:=sH hr;clear hr hX;go_wp2_with fail;refine(mX g _ _ _ acc a w2 (HG.out.fr F02) HR.out).mono ?_;rintro e w3 ⟨rfl,F3⟩;generalize bN g acc a=R at*
 obtain⟨⟨x,y⟩,z⟩:=R;clear k0 k1 k2 k3 k4 k5 k6 k7 k8;go_upto_region 4 with(fail)
 generalize hW:w3.alloc _=w4;have F4:Fr none w3 w4:=hW▸(Fr.refl none w3).alloc _;have b7:w4.heap[w3.heap.size]?=some (.cells #[.int .i64 x,.int .i64 y] 194 (0,0)):=by rw[←hW];exact aD _ _
 have q0:w4.cell? ⟨w3.heap.size,0,none⟩=some (.int .i64 x):=by rw[aA b7];rfl
 have q1:w4.cell? ⟨w3.heap.size,1,none⟩=some (.int .i64 y):=by rw[aA b7];rfl
 have l7:=aC b7;clear hW b7;go_wp2;go_ret;exact⟨aM HX.out.symm,F02.pure (F3.pure F4)⟩):p:=h
theorem rY(g:Lgr)(va vl vo:Value)(acc:Int)(a:Ast)(w:World)(h:LgS w none g va vl vo):Calls Tryz.prog 115 #[.agg #[.int .i64 g.num,va,vl,vo,.int .i64 g.nid,.int .i64 g.fees,.int .u64 (g.link:Int)],.int .i64 acc,.agg #[.string (bL a.code),.int .i64 a.iss]] w fun e w'=>e= .returned (.int .i64 (fG g acc a))∧Fr none w w':=by
 obtain⟨V,hV⟩:∃V,V=fG g acc a:=⟨_,rfl⟩;rw[←hV];have HV:=sH hV;clear hV;obtain⟨A1,c1,rfl, -, -, -⟩:=aN h.1;obtain⟨A2,c2,rfl, -, -, -⟩:=aU h.2.1;obtain⟨A3,c3,rfl, -, -, -⟩:=bA h.2.2.1;have HG:=sH h;clear h;go_enter Tryz.func115,Tryz.ntmps115;go_upto_region 1 with(fail)
 generalize hW:(w.alloc _).alloc _=w1;obtain⟨F1,b1,b2⟩:Fr none w w1∧LgB w1 w.heap.size g (.slice A1 g.accs.length c1) (.slice A2 g.lines.length c2) (.slice A3 g.offers.length c3)∧dK w1 (w.heap.size+1) a:=by rw[←hW];exact cW w _ _
 clear hW;have HK:Hid (∀W,Fr none w1 W→(W.cell? ⟨w.heap.size,0,none⟩=some (.int .i64 g.num)∧W.cell? ⟨w.heap.size,1,none⟩=some (.slice A1 g.accs.length c1)∧W.cell? ⟨w.heap.size,2,none⟩=some (.slice A2 g.lines.length c2)∧W.cell? ⟨w.heap.size,3,none⟩=some (.slice A3 g.offers.length c3)∧W.cell? ⟨w.heap.size,4,none⟩=some (.int .i64 g.nid)∧W.cell? ⟨w.heap.size,5,none⟩=some (.int .i64 g.fees)∧W.cell? ⟨w.heap.size,6,none⟩=some (.int .u64 (g.link:Int)))∧W.cell? ⟨w.heap.size+1,0,none⟩=some (.string (bL a.code))∧W.cell? ⟨w.heap.size+1,1,none⟩=some (.int .i64 a.iss)):=fun W FW=>⟨(b1.fr FW).cells,(b2.fr FW).cells⟩;clear b1 b2;obtain⟨⟨k0,k1,k2,k3,k4,k5,k6⟩,k7,k8⟩:=HK.out w1 (Fr.refl _ _);go_wp2_with fail;refine(pU g _ _ _ w1 (HG.out.fr F1)).mono ?_;rintro e w2 ⟨rfl,F2⟩;clear k0 k1 k2 k3 k4 k5 k6 k7 k8;obtain⟨⟨k0,k1,k2,k3,k4,k5,k6⟩,k7,k8⟩:=HK.out w2 F2;have F02:=F1.pure F2;by_cases hr:bW g.lines g.accs=0
 ·rw[decide_eq_true hr];have hX:V=(bN g acc a).1.1:=by
   rw[HV.out];first|(unfold iD;rw[if_neg (by omega)])|(rw[gS,if_neg (by omega)])
  exact Hx
 rw[decide_eq_false hr];have hX:V=0:=by
  rw[HV.out];first|(unfold iD;rw[if_pos hr])|(rw[gS,if_pos hr])
 have HX:=sH hX;clear hr hX;go_wp2;go_ret;exact⟨aM HX.out.symm,F02⟩
theorem AE(g:Lgr)(va vl vo:Value)(acc:Int)(a:Ast)(w:World)(h:LgS w none g va vl vo):Calls Tryz.prog 233 #[.agg #[.int .i64 g.num,va,vl,vo,.int .i64 g.nid,.int .i64 g.fees,.int .u64 (g.link:Int)],.int .i64 acc,.agg #[.string (bL a.code),.int .i64 a.iss]] w fun e w'=>e= .returned (.int .i64 (iD g acc a))∧Fr none w w':=by
 obtain⟨V,hV⟩:∃V,V=iD g acc a:=⟨_,rfl⟩;rw[←hV];have HV:=sH hV;clear hV;obtain⟨A1,c1,rfl, -, -, -⟩:=aN h.1;obtain⟨A2,c2,rfl, -, -, -⟩:=aU h.2.1;obtain⟨A3,c3,rfl, -, -, -⟩:=bA h.2.2.1;have HG:=sH h;clear h;go_enter Tryz.func233,Tryz.ntmps233;go_upto_region 1 with(fail)
 generalize hW:(w.alloc _).alloc _=w1;obtain⟨F1,b1,b2⟩:Fr none w w1∧LgB w1 w.heap.size g (.slice A1 g.accs.length c1) (.slice A2 g.lines.length c2) (.slice A3 g.offers.length c3)∧dK w1 (w.heap.size+1) a:=by rw[←hW];exact cW w _ _
 clear hW;have HK:Hid (∀W,Fr none w1 W→(W.cell? ⟨w.heap.size,0,none⟩=some (.int .i64 g.num)∧W.cell? ⟨w.heap.size,1,none⟩=some (.slice A1 g.accs.length c1)∧W.cell? ⟨w.heap.size,2,none⟩=some (.slice A2 g.lines.length c2)∧W.cell? ⟨w.heap.size,3,none⟩=some (.slice A3 g.offers.length c3)∧W.cell? ⟨w.heap.size,4,none⟩=some (.int .i64 g.nid)∧W.cell? ⟨w.heap.size,5,none⟩=some (.int .i64 g.fees)∧W.cell? ⟨w.heap.size,6,none⟩=some (.int .u64 (g.link:Int)))∧W.cell? ⟨w.heap.size+1,0,none⟩=some (.string (bL a.code))∧W.cell? ⟨w.heap.size+1,1,none⟩=some (.int .i64 a.iss)):=fun W FW=>⟨(b1.fr FW).cells,(b2.fr FW).cells⟩;clear b1 b2;obtain⟨⟨k0,k1,k2,k3,k4,k5,k6⟩,k7,k8⟩:=HK.out w1 (Fr.refl _ _);go_wp2_with fail;refine(pU g _ _ _ w1 (HG.out.fr F1)).mono ?_;rintro e w2 ⟨rfl,F2⟩;clear k0 k1 k2 k3 k4 k5 k6 k7 k8;obtain⟨⟨k0,k1,k2,k3,k4,k5,k6⟩,k7,k8⟩:=HK.out w2 F2;have F02:=F1.pure F2;by_cases hr:bW g.lines g.accs=0
 ·rw[decide_eq_true hr];have hX:V=(bN g acc a).1.2:=by
   rw[HV.out];first|(unfold iD;rw[if_neg (by omega)])|(rw[gS,if_neg (by omega)])
  exact Hx
 rw[decide_eq_false hr];have hX:V=0:=by
  rw[HV.out];first|(unfold iD;rw[if_pos hr])|(rw[gS,if_pos hr])
 have HX:=sH hX;clear hr hX;go_wp2;go_ret;exact⟨aM HX.out.symm,F02⟩
theorem vW(g:Lgr)(va vl vo:Value)(acc:Int)(a:Ast)(n:Int)(w:World)(h:LgS w none g va vl vo):Calls Tryz.prog 175 #[.agg #[.int .i64 g.num,va,vl,vo,.int .i64 g.nid,.int .i64 g.fees,.int .u64 (g.link:Int)],.int .i64 acc,.agg #[.string (bL a.code),.int .i64 a.iss],.int .i64 n] w fun e w'=>e= .returned (.int .i64 (ckT g acc a n))∧Fr none w w':=by
 obtain⟨V,hV⟩:∃V,V=ckT g acc a n:=⟨_,rfl⟩;rw[←hV];unfold ckT at hV;have HV:=sH hV;clear hV;obtain⟨A1,c1,rfl, -, -, -⟩:=aN h.1;obtain⟨A2,c2,rfl, -, -, -⟩:=aU h.2.1;obtain⟨A3,c3,rfl, -, -, -⟩:=bA h.2.2.1;have HG:=sH h;clear h;go_enter Tryz.func175,Tryz.ntmps175;go_upto_region 1 with(fail)
 generalize hW:(w.alloc _).alloc _=w1;obtain⟨F1,b1,b2⟩:Fr none w w1∧LgB w1 w.heap.size g (.slice A1 g.accs.length c1) (.slice A2 g.lines.length c2) (.slice A3 g.offers.length c3)∧dK w1 (w.heap.size+1) a:=by rw[←hW];exact cW w _ _
 clear hW;have HK:Hid (∀W,Fr none w1 W→(W.cell? ⟨w.heap.size,0,none⟩=some (.int .i64 g.num)∧W.cell? ⟨w.heap.size,1,none⟩=some (.slice A1 g.accs.length c1)∧W.cell? ⟨w.heap.size,2,none⟩=some (.slice A2 g.lines.length c2)∧W.cell? ⟨w.heap.size,3,none⟩=some (.slice A3 g.offers.length c3)∧W.cell? ⟨w.heap.size,4,none⟩=some (.int .i64 g.nid)∧W.cell? ⟨w.heap.size,5,none⟩=some (.int .i64 g.fees)∧W.cell? ⟨w.heap.size,6,none⟩=some (.int .u64 (g.link:Int)))∧W.cell? ⟨w.heap.size+1,0,none⟩=some (.string (bL a.code))∧W.cell? ⟨w.heap.size+1,1,none⟩=some (.int .i64 a.iss)):=fun W FW=>⟨(b1.fr FW).cells,(b2.fr FW).cells⟩;clear b1 b2;obtain⟨⟨k0,k1,k2,k3,k4,k5,k6⟩,k7,k8⟩:=HK.out w1 (Fr.refl _ _);go_wp2_with fail;refine(gW g.accs _ acc w1 (HG.out.1.fr F1)).mono ?_;rintro e w2 ⟨rfl,F2⟩;have hfs:=dY g.accs acc;generalize dR g.accs acc=R at*
 obtain⟨⟨f1,f2,f3⟩,FB⟩:=R;have hf2:FB=(aK g.accs acc).isSome:=hfs;rw[←hf2] at HV;clear hf2 hfs;clear k0 k1 k2 k3 k4 k5 k6 k7 k8;go_upto_region 2 with(fail)
 generalize hW:w2.alloc _=w3;have F3:Fr none w2 w3:=hW▸(Fr.refl none w2).alloc _;clear hW;have FF:=F2.pure F3;clear F2 F3;obtain⟨⟨k0,k1,k2,k3,k4,k5,k6⟩,k7,k8⟩:=HK.out w3 FF;go_wp2_with fail;refine(pU g _ _ _ w3 (HG.out.fr (F1.pure FF))).mono ?_;rintro e w4 ⟨rfl,F4⟩;clear k0 k1 k2 k3 k4 k5 k6 k7 k8;have FF:=FF.pure F4;clear F4;obtain⟨⟨k0,k1,k2,k3,k4,k5,k6⟩,k7,k8⟩:=HK.out w4 FF;by_cases hr:bW g.lines g.accs=0
 ·rw[decide_eq_true hr];have HV:=sH (HV.out.trans (if_neg (by omega)));clear hr;go_wp2_with fail;refine(bT a w4).mono ?_;rintro e w5 ⟨rfl,F5⟩;clear k0 k1 k2 k3 k4 k5 k6 k7 k8;have FF:=FF.pure F5;clear F5;generalize aV a=va at*
  cases va with
  |false=>
   have HX:Hid (V=71):=HV.out.trans (if_pos rfl);go_wp2;go_ret;exact⟨aM HX.out.symm,F1.pure FF⟩
  |true=>
   have HV:=sH (HV.out.trans (if_neg (by simp)));cases FB with
   |false=>
    have HX:Hid (V=67):=HV.out.trans (if_pos rfl);go_wp2;go_ret;exact⟨aM HX.out.symm,F1.pure FF⟩
   |true=>
    have HV:=sH (HV.out.trans (if_neg (by simp)));go_wp2_with fail;refine(cJ n w5).mono ?_;rintro e w6 ⟨rfl,rfl⟩;generalize aX n=vn at*
    cases vn with
    |false=>
     have HX:Hid (V=65):=HV.out.trans (if_pos rfl);go_wp2;go_ret;exact⟨aM HX.out.symm,F1.pure FF⟩
    |true=>
     have HX:Hid (V=0):=HV.out.trans (if_neg (by simp));go_wp2;go_ret;exact⟨aM HX.out.symm,F1.pure FF⟩
 rw[decide_eq_false hr];have HX:Hid (V=74):=HV.out.trans (if_pos hr);clear hr;go_wp2;go_ret;exact⟨aM HX.out.symm,F1.pure FF⟩
end Go.Proofs.YthaggndnfamhjaaGreatDoor
