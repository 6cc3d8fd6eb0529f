/- Texts, joined. -/
import Derived.Test.YthaggndnfamhjaaGreatDoorProg
import Derived.Test.YthaggndnfamhjaaGreatDoorJN25
import Derived.Test.YthaggndnfamhjaaGreatDoorJN23
import Derived.Test.YthaggndnfamhjaaGreatDoorJN13
import Derived.Test.YthaggndnfamhjaaGreatDoorJN38
import Derived.Test.YthaggndnfamhjaaGreatDoorJN29
import Derived.Test.YthaggndnfamhjaaGreatDoorJN15
import Derived.Test.YthaggndnfamhjaaGreatDoorJA

set_option linter.unusedSimpArgs false
set_option linter.unusedVariables false
set_option maxRecDepth 100000
set_option maxHeartbeats 16000000
namespace Go.Proofs.YthaggndnfamhjaaGreatDoor
open Go.RowKit
theorem Fg{l:List TxX}(h:l.Pairwise (fun a b=>a.src<b.src)):(plT l).Pairwise (fun a b=>a.src≠b.src):=by
 unfold plT;rw[List.pairwise_map];exact h.imp fun h=>by show _≠_;simp only[TxX.pl];omega
theorem vR{G:Lgr}{L:List Txn}{X:Lgr}{rr qq:List (Int × Int)}(hg:aI G=0)(hv:∀t ∈ L,vTx t=true)(hp:L.Pairwise (fun a b=>a.src≠b.src))(hX:aI X=0)(hXA:X.accs=(bQ L G).1.accs)(hr:rr=(bQ L G).2)(hq:qq=(bQ L X).2){k:Nat}(hk:k<L.length)(hkr:k<rr.length)(hkq:k<qq.length)(h0:0≤rr[k].2):qq[k]=(68, -1):=by
 obtain⟨y,hy,hs⟩:=CD hg hp hk (r:=rr[k]) (by rw[←hr];exact List.getElem?_eq_getElem hkr) h0;have:=Az hX hp hk (hv _ (List.getElem_mem hk)) (y:=y) (by rw[hXA];exact hy) hs;rw[←hq,List.getElem?_eq_getElem hkq] at this;injection this
theorem lawLn_any(v:Value)(t:List Int)(w:World)(ht:SlI w none v t)(hT:Tab w)(hE:Errs w)(hM:Mxl w):
  Calls Tryz.prog 5 #[v] w fun e w'=>e= .returned (.bool true)∧Fr none w w':=by
 have HT:=sH hT;have HE:=sH hE;have HM:=sH hM;have HMX:Hid (0<w.heap.size):=by obtain⟨m,h⟩:=hM;exact World.block_lt_of_cell? w _ h
 clear hT hE hM;go_enter Tryz.func5,Tryz.ntmps5;go_wp2_with fail;refine(vZ v t w ht).mono ?_;rintro e w1 ⟨sb,rfl,hsb,S1,F1⟩;go_wp2_with fail;refine(wH sb w1 S1).mono ?_;rintro e w2 ⟨va,vl,vo,G,rfl,hG,hok,S2,F2⟩;unfold bxv;have hs1:=S1.lt;obtain⟨A1,ca,rfl,_,_,_⟩:=aL (hG.lgs none (by simp)).1;obtain⟨A2,cl,rfl,_,_,_⟩:=aQ (hG.lgs none (by simp)).2.1;obtain⟨A3,co,rfl,_,_,_⟩:=aZ (hG.lgs none (by simp)).2.2.1;have HGS:Hid (LgS w2 (some sb) G (.slice A1 G.accs.length ca) (.slice A2 G.lines.length cl) (.slice A3 G.offers.length co)):=hG.lgs (some sb) (by intro q e;injection e with e;omega);have HOK:=sH hok;have FX:Fr none w w2:=F1.new F2 hsb;have hs2:=F2.size;clear S1 F1 F2 ht hG hok;go_upto_region 3 with(fail)
 obtain⟨gb,hgb⟩:∃gb,gb=w2.heap.size:=⟨_,rfl⟩;rw[←hgb];generalize hW:w2.alloc _=w3;have F3:Fr none w2 w3:=hW▸(Fr.refl none w2).alloc _;have bg:LgB w3 gb G (.slice A1 G.accs.length ca) (.slice A2 G.lines.length cl) (.slice A3 G.offers.length co):=by rw[←hW,hgb];exact aD _ _
 have hgb2:sb<gb:=by omega
 clear hW hgb;have S3:=S2.fr F3;have HGS:=sH (HGS.out.fr F3.mono);have FX:=FX.pure F3;clear S2 F3 hs2;obtain⟨k0,k1,k2,k3,k4,k5,k6⟩:=bg.cells;go_wp2_with fail;refine(wL sb G A1 A2 A3 G.lines.length G.offers.length ca cl co 3 w3 (by omega) S3 HGS.out.1 HOK.out.ga.sq).mono ?_;rintro e w4 ⟨vt,l,rfl,hSl,hlm,hl5,hvt,hpw,S4,F4⟩;have HSL:=sH (hSl.t none (by simp));have HWO:Hid (∀y ∈ l,∀x ∈ y.ops,OpW x.o):=fun y hy=>(HSL.out.2 y hy).1.2;have HVT:Hid (∀y ∈ l,vTx y.pl=true):=fun y hy=>(hvt y hy).1;have HCK:Hid (cR (plT l)=0):=DE (by unfold plT;rw[List.length_map];omega) (by intro x hx;unfold plT at hx;obtain⟨y,hy,rfl⟩:=List.mem_map.1 hx;exact(hvt y hy).1) (Gt hpw);have HNE:Hid ((plT l).Pairwise (fun a b=>a.src≠b.src)):=Fg hpw;have HGS:=sH (HGS.out.fr F4).weak;have hgb:=bg.fr F4 (by intro e;injection e with e;omega);have FX:=FX.new F4 hsb;obtain⟨At,ct,hov, -, -,hcell⟩:=iC HSL.out.1;subst hov;have HC:=sH hcell;have hlm5:l.length≤5:=hl5;clear k0 k1 k2 k3 k4 k5 k6 bg S3 S4 F4 hSl hvt hpw hcell hlm hl5;have HCC:=sH (vP HOK.out.ok HCK.out (by have:=HOK.out.num;omega));obtain⟨X,hX⟩:∃X:Lgr,X={(bQ (plT l) G).1 with num:=(bQ (plT l) G).1.num+1}:=⟨_,rfl⟩;obtain⟨rr,hrr⟩:∃rr,rr=(bQ (plT l) G).2:=⟨_,rfl⟩;have HXN:Hid (X.num=G.num+1):=by
  unfold Hid;rw[hX];show(bQ (plT l) G).1.num+1=G.num+1;rw[(kW (plT l) G HOK.out.ok).num]
 have HXF:Hid (X.fees=G.fees+Ej (plT l) rr):=by unfold Hid;rw[hX,hrr];exact(kW (plT l) G HOK.out.ok).fees
 have HRL:Hid (rr.length=l.length):=by
  unfold Hid;rw[hrr,pI];unfold plT;rw[List.length_map]
 have HXA:Hid (X.accs=(bQ (plT l) G).1.accs):=by unfold Hid;rw[hX]
 have HCL:Hid (wS G (plT l)=((X,rr),0)):=by unfold Hid;rw[hX,hrr];exact HCC.out.1
 have HXK:Hid (aI X=0):=by unfold Hid;rw[hX];exact HCC.out.2
 have HXX:=sH hX;have HRR:=sH hrr;clear hX hrr HCC;obtain⟨k0,k1,k2,k3,k4,k5,k6⟩:=hgb.cells;go_wp2_with fail;refine(vQ G _ _ _ l _ w4 HGS.out HSL.out HWO.out).mono ?_;rw[HCL.out];rintro e w5 ⟨Ya,ya,yac,Yl,yl,ylc,Yo,yo,yoc,Ar,cr,rfl,hL,own,F5⟩;clear k0 k1 k2 k3 k4 k5 k6;dsimp only at hL own ⊢;rw[HRL.out] at own ⊢;go_upto_region 5 with(fail)
 generalize hW:w5.alloc _=w6;have F6:Fr none w5 w6:=hW▸(Fr.refl none w5).alloc _;have hyb:LgB w6 w5.heap.size X (.slice Ya ya yac) (.slice Yl yl ylc) (.slice Yo yo yoc):=by rw[←hW];exact aD _ _
 clear hW;have HOWN:=sH (aR own F6 (by simp));have HYS:Hid (LgS w6 none X (.slice Ya ya yac) (.slice Yl yl ylc) (.slice Yo yo yoc)):=(hL none (by simp)).fr F6;have FX4:Fr none w4 w6:=F5.pure F6;have FXX:=FX.pure FX4;have HN2:Hid (X.num<1000000):=by unfold Hid;rw[HXN.out];have:=HOK.out.num;omega
 have HCC2:=sH (vP HXK.out HCK.out HN2.out);clear own hL F5 F6 FX hgb;obtain⟨Z,hZ⟩:∃Z:Lgr,Z={(bQ (plT l) X).1 with num:=(bQ (plT l) X).1.num+1}:=⟨_,rfl⟩;obtain⟨qq,hqq⟩:∃qq,qq=(bQ (plT l) X).2:=⟨_,rfl⟩;have HQL:Hid (qq.length=l.length):=by
  unfold Hid;rw[hqq,pI];unfold plT;rw[List.length_map]
 have HCL2:Hid (wS X (plT l)=((Z,qq),0)):=by unfold Hid;rw[hZ,hqq];exact HCC2.out.1
 have HZZ:=sH hZ;have HQQ:=sH hqq;clear hZ hqq HCC2;obtain⟨y0,y1,y2,y3,y4,y5,y6⟩:=hyb.cells;go_wp2_with fail;refine(vQ X _ _ _ l _ w6 HYS.out (HSL.out.fr FX4) HWO.out).mono ?_;rw[HCL2.out];rintro e w7 ⟨Za,za,zac,Zl,zl,zlc,Zo,zo,zoc,Br,br,rfl,hL,own,F7⟩;clear y0 y1 y2 y3 y4 y5 y6;dsimp only at hL own ⊢;rw[HQL.out] at own ⊢;have HYS7:=sH (HYS.out.fr F7);have HW7:Hid (w.heap.size≤w7.heap.size):=(FXX.pure F7).size;have HW57:Hid (w5.heap.size<w7.heap.size):=aC (hyb.fr F7);go_upto_region 6 with(fail)
 generalize hW:w7.alloc _=w8;have F8:Fr none w7 w8:=hW▸(Fr.refl none w7).alloc _;have hzb:LgB w8 w7.heap.size Z (.slice Za za zac) (.slice Zl zl zlc) (.slice Zo zo zoc):=by rw[←hW];exact aD _ _
 clear hW;have F68:Fr none w6 w8:=F7.pure F8;have HOWN:=sH (aR HOWN.out F68 (by simp));have HQWN:=sH (aR own F8 (by simp));have HYS:=sH (HYS.out.fr F68);have HZS:Hid (LgS w8 (some w7.heap.size) Z (.slice Za za zac) (.slice Zl zl zlc) (.slice Zo zo zoc)):=(hL none (by simp)).fresh F8 (Nat.le_refl _);have HYF:Hid (LgS w8 (some w7.heap.size) X (.slice Ya ya yac) (.slice Yl yl ylc) (.slice Yo yo yoc)):=by
  have:LgS w7 none X (.slice Ya ya yac) (.slice Yl yl ylc) (.slice Yo yo yoc):=HYS7.out;exact this.fresh F8 (Nat.le_refl _)
 have HYB:=sH (hyb.fr F68);have HZB:=sH hzb;have FX8:=FXX.pure F68;have HRK:Hid (rr.length=l.length):=HRL.out;have HQK:Hid (qq.length=l.length):=HQL.out;clear own hL hyb hzb F7 F8 F68 FXX FX4;go_wp2_with fail;go_loopw [56] (fun s56 wr=>∃k:Nat,k≤l.length∧s56= .int .i64 (k:Int)∧Hid (∀j (hj:j<rr.length) (hq:j<qq.length),j<k→rr[j].2<0→qq[j].2<0)∧Fr none w8 wr) (fun s56 _=>l.length - (intOf s56).toNat)
 case atStart=>exact⟨0,Nat.zero_le _,rfl,fun j _ _ h=>absurd h (Nat.not_lt_zero _),Fr.refl _ _⟩
 case round=>
  obtain⟨k,hk,rfl,HJ,F⟩:=hrel;by_cases hlt:k<l.length
  ·have hkr:k<rr.length:=by rw[HRK.out];exact hlt
   have hkq:k<qq.length:=by rw[HQK.out];exact hlt
   obtain⟨rb,rfl⟩:=dC HOWN.out (by omega);obtain⟨qb,rfl⟩:=dC HQWN.out (by omega);have a1:=(aW HOWN.out).2.1 _ _ ((bO CI rr k hkr 1 (by decide)).trans rfl);have a1:w8.cell? ⟨rb,k*2+1,none⟩=some (.int .i64 rr[k].2):=a1;have b0:=(aW HQWN.out).2.1 _ _ ((bO CI qq k hkq 0 (by decide)).trans rfl);have b0:w8.cell? ⟨qb,k*2,none⟩=some (.int .i64 qq[k].1):=b0;have b1:=(aW HQWN.out).2.1 _ _ ((bO CI qq k hkq 1 (by decide)).trans rfl);have b1:w8.cell? ⟨qb,k*2+1,none⟩=some (.int .i64 qq[k].2):=b1;have a1:=F.keep a1;have b0:=F.keep b0;have b1:=F.keep b1;have HAG:Hid (0≤rr[k].2→qq[k]=(68, -1)):=fun h0=>vR HOK.out.ok (fun t ht=>by unfold plT at ht;obtain⟨y,hy,rfl⟩:=List.mem_map.1 ht;exact HVT.out y hy) HNE.out HXK.out HXA.out HRR.out HQQ.out (k:=k) (by unfold plT;rw[List.length_map];exact hlt) hkr hkq h0;have HJN:Hid ((rr[k].2<0→qq[k].2<0)→∀j (hj:j<rr.length) (hq:j<qq.length),j<k+1→rr[j].2<0→qq[j].2<0):=fun h j hj hq hjk=>by
    rcases Nat.lt_or_ge j k with hh|hh
    ·exact HJ.out j hj hq hh
    obtain rfl:j=k:=by omega
    exact h
   have hkl:(k:Int)<(l.length:Int):=by omega
   generalize rr[k]=r at*
   generalize qq[k]=q at*
   by_cases hr0:0≤r.2
   ·have hq:=HAG.out hr0;subst hq;have d1:decide (0≤r.2)=true:=decide_eq_true hr0;have d2:decide (r.2<0)=false:=decide_eq_false (by omega);have HJ9:=sH (HJN.out (fun h=>absurd h (by omega)));clear hr0;dsimp only at b0 b1;go_wp2_with fail;go_roundw
    case rel=>exact⟨k+1,hlt,by go_num,HJ9,F⟩
    case measure=>simp[intOf]<;>omega
   have d1:decide (0≤r.2)=false:=decide_eq_false hr0;have d2:decide (r.2<0)=true:=decide_eq_true (by omega);by_cases hq0:0≤q.2
   ·have d3:decide (0≤q.2)=true:=decide_eq_true hq0;have FX:=FX8.pure F;clear hr0 hq0;go_wp2_with fail;refine(oU _ (HE.out.frs FX (by simp) (by simp)) (HM.out.frs FX (by simp)) (HT.out.fr FX) (Nat.lt_of_lt_of_le HMX.out FX.size)).mono ?_;rintro e w99 ⟨rfl,F99⟩;go_wp2;go_ret;exact⟨rfl,FX.pure F99⟩
   have d3:decide (0≤q.2)=false:=decide_eq_false hq0;have HJ9:=sH (HJN.out (fun _=>by omega));clear hr0 hq0;go_wp2_with fail;go_roundw
   case rel=>exact⟨k+1,hlt,by go_num,HJ9,F⟩
   case measure=>simp[intOf]<;>omega
  obtain rfl:k=l.length:=by omega
  have HST:Hid ((bQ (plT l) X).1=X):=vO _ X HXK.out (fun i r hr=>by
   rw[←HQQ.out] at hr;obtain⟨hi,rfl⟩:=List.getElem?_eq_some_iff.1 hr;have hir:i<rr.length:=by rw[HRK.out,←HQK.out];exact hi
   have hil:i<(plT l).length:=by unfold plT;rw[List.length_map,←HQK.out];exact hi
   by_cases h0:0≤rr[i].2
   ·rw[vR HOK.out.ok (fun t ht=>by unfold plT at ht;obtain⟨y,hy,rfl⟩:=List.mem_map.1 ht;exact HVT.out y hy) HNE.out HXK.out HXA.out HRR.out HQQ.out hil hir hi h0];decide
   exact HJ.out i hir hi (by rw[←HQK.out];exact hi) (by omega))
  have HZX:Hid (Z={X with num:=X.num+1}):=by unfold Hid;rw[HZZ.out,HST.out]
  have hzb:=HZB.out.fr F;have HZF:=sH (HZS.out.fr F.mono);have HYF:=sH (HYF.out.fr F.mono);have FX:=FX8.pure F;have hyb:=HYB.out.fr F;rw[HZX.out] at hzb HZF;clear HJ;have hz2:w7.heap.size<wr.heap.size:=aC hzb;have hne:w5.heap.size<w7.heap.size:=HW57.out;obtain⟨k0,k1,k2,k3,k4,k5,k6⟩:=hzb.cells;have z0:=aB hzb 0;have hw1:wrap64 X.num=X.num:=fT (by have:=HXN.out;have:=HOK.out.num;omega) (by have:=HXN.out;have:=HOK.out.num;omega);dsimp only at k0 k1 k2 k3 k4 k5 k6;go_upto_region 17 with(fail)
  generalize hW:wr.setCell ⟨w7.heap.size,0,none⟩ (.int .i64 X.num)=wx;obtain⟨Fx,hzx⟩:Fr (some w7.heap.size) wr wx∧LgB wx w7.heap.size X (.slice Za za zac) (.slice Zl zl zlc) (.slice Zo zo zoc):=by rw[←hW];exact⟨(hzb.set0 X.num).1,(hzb.set0 X.num).2⟩
  clear hW k0 k1 k2 k3 k4 k5 k6 z0 hw1 hzb hz2;have HZG:Hid (LgS wx none X (.slice Za za zac) (.slice Zl zl zlc) (.slice Zo zo zoc)):=by
   obtain⟨p1,p2,p3,p4,p5⟩:=(HZF.out.fr Fx).weak;exact⟨p1,p2,p3,HYF.out.2.2.2.1,p5⟩
  have HYG:=sH (HYF.out.fr Fx).weak;have hyb:=hyb.fr Fx (fun e=>by injection e with e;omega);have FX:=FX.new Fx HW7.out;obtain⟨y0,y1,y2,y3,y4,y5,y6⟩:=hyb.cells;obtain⟨k0,k1,k2,k3,k4,k5,k6⟩:=hzx.cells;go_wp2_with fail;refine(CP X _ _ _ _ _ _ wx HYG.out HZG.out).mono ?_;rintro e w99 ⟨rfl,F99⟩;clear k0 k1 k2 k3 k4 k5 k6 y0 y1 y2 y3 y4 y5 y6;have FX:=FX.pure F99;clear F99;go_wp2_with fail;refine(oU _ (HE.out.frs FX (by simp) (by simp)) (HM.out.frs FX (by simp)) (HT.out.fr FX) (Nat.lt_of_lt_of_le HMX.out FX.size)).mono ?_;rintro e w99 ⟨rfl,F99⟩;go_wp2;go_ret;exact⟨rfl,FX.pure F99⟩
end Go.Proofs.YthaggndnfamhjaaGreatDoor
