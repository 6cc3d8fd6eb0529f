/- Texts, joined. -/
import Derived.Test.YthaggndnfamhjaaGreatDoorProg
import Derived.Test.YthaggndnfamhjaaGreatDoorJF24
import Derived.Test.YthaggndnfamhjaaGreatDoorJF22
import Derived.Test.YthaggndnfamhjaaGreatDoorJF13
import Derived.Test.YthaggndnfamhjaaGreatDoorJF37
import Derived.Test.YthaggndnfamhjaaGreatDoorJF28
import Derived.Test.YthaggndnfamhjaaGreatDoorJA

set_option linter.unusedSimpArgs false
set_option linter.unusedVariables false
set_option maxRecDepth 100000
set_option maxHeartbeats 16000000
namespace Go.Proofs.YthaggndnfamhjaaGreatDoor
open Go.RowKit
theorem EW{l:List TxX}(h:l.Pairwise (fun a b=>a.src<b.src)):(plT l).Pairwise (fun a b=>a.src≠b.src):=by
 unfold plT;rw[List.pairwise_map];exact h.imp fun h=>by show _≠_;simp only[TxX.pl];omega
theorem xA{l:List TxX}{k:Nat}(hk:k<l.length):(plT l)[k]'(by unfold plT;rw[List.length_map];exact hk)=l[k].pl:=by
 unfold plT;rw[List.getElem_map]
theorem rN:∀(l:List Txn) (r:List (Int × Int)) (k:Nat) (hk:k<l.length) (hr:k<r.length),kI (l.take (k+1)) (r.take (k+1))=kI (l.take k) (r.take k)+if 0≤r[k].2 then l[k].fee else 0
 |[],_,k,hk,_=>by simp at hk
 |_::_,[],k,_,hr=>by simp at hr
 |t::l,x::r,0,_,_=>by
  show(if 0≤x.2 then t.fee else 0)+kI [] []=kI [] []+_;simp only[kI,List.getElem_cons_zero];omega
 |t::l,x::r,k+1,hk,hr=>by
  have:=rN l r k (by simpa using hk) (by simpa using hr);show(if 0≤x.2 then t.fee else 0)+kI (l.take (k+1)) (r.take (k+1))=(if 0≤x.2 then t.fee else 0)+kI (l.take k) (r.take k)+_;rw[this];simp only[List.getElem_cons_succ];omega
theorem Ek{t:Txn}(h:vTx t=true):1≤t.fee∧t.fee≤100000:=by
 unfold vTx at h;simp only[Bool.and_eq_true,eA] at h;exact h.2.2.1
theorem kG{l:List aR}{id:Int}{a:aR}(h:aJ l id=some a):cC l id=(a,true):=by unfold cC;rw[h]
theorem rO{l:List aR}{id:Int}(h:aJ l id=none):cC l id=(De,false):=by unfold cC;rw[h]
theorem yK{g:Lgr}(hg:aI g=0){id:Int}{a:aR}(h:aJ g.accs id=some a):0≤a.seq∧a.seq≤1000000:=by
 have:=lM (aY.1 hg).1 h;exact this.2.2
theorem EX{p:Prop}(h:p:=by
 go_wp2_with fail;go_roundw
 case rel=>exact⟨k+1,(f+tf),hlt,by go_num,rfl,HNF,(by have:=HF0.out;have:=HFE.out;unfold Hid;omega),(by have:=HF1.out;have:=HFE.out;unfold Hid;omega),F.pure (Fb0.pure Ff)⟩
 case measure=>simp[intOf]<;>omega):p:=h
theorem lawLf_any(v:Value)(t:List Int)(w:World)(ht:SlI w none v t)(hT:Tab w)(hE:Errs w)(hM:Mxl w):
  Calls Tryz.prog 4 #[v] w fun e w'=>e= .returned (.bool true)∧Fr none w w':=by
 have HT:=sH hT;have HE:=sH hE;have HM:=sH hM;have HMX:Hid (0<w.heap.size):=by obtain⟨m,h⟩:=hM;exact World.block_lt_of_cell? w _ h
 clear hT hE hM;go_enter Tryz.func4,Tryz.ntmps4;go_wp2_with fail;refine(vX v t w ht).mono ?_;rintro e w1 ⟨sb,rfl,hsb,S1,F1⟩;go_wp2_with fail;refine(wE sb w1 S1).mono ?_;rintro e w2 ⟨va,vl,vo,G,rfl,hG,hok,S2,F2⟩;unfold bxv;have hs1:=S1.lt;obtain⟨A1,ca,rfl,_,_,_⟩:=aM (hG.lgs none (by simp)).1;obtain⟨A2,cl,rfl,_,_,_⟩:=aU (hG.lgs none (by simp)).2.1;obtain⟨A3,co,rfl,_,_,_⟩:=bD (hG.lgs none (by simp)).2.2.1;have HGS:Hid (LgS w2 (some sb) G (.slice A1 G.accs.length ca) (.slice A2 G.lines.length cl) (.slice A3 G.offers.length co)):=hG.lgs (some sb) (by intro q e;injection e with e;omega);have HOK:=sH hok;have FX:Fr none w w2:=F1.new F2 hsb;have hs2:=F2.size;clear S1 F1 F2 ht hG hok;go_upto_region 3 with(fail)
 obtain⟨gb,hgb⟩:∃gb,gb=w2.heap.size:=⟨_,rfl⟩;rw[←hgb];generalize hW:w2.alloc _=w3;have F3:Fr none w2 w3:=hW▸(Fr.refl none w2).alloc _;have bg:LgB w3 gb G (.slice A1 G.accs.length ca) (.slice A2 G.lines.length cl) (.slice A3 G.offers.length co):=by rw[←hW,hgb];exact aD _ _
 have hgb2:sb<gb:=by omega
 clear hW hgb;have S3:=S2.fr F3;have HGS:=sH (HGS.out.fr F3.mono);have FX:=FX.pure F3;clear S2 F3 hs2;obtain⟨k0,k1,k2,k3,k4,k5,k6⟩:=bg.cells;go_wp2_with fail;refine(wI sb G A1 A2 A3 G.lines.length G.offers.length ca cl co 4 w3 (by omega) S3 HGS.out.1 HOK.out.ga.sq).mono ?_;rintro e w4 ⟨vt,l,rfl,hSl,hlm,hl5,hvt,hpw,S4,F4⟩;have HSL:=sH (hSl.t none (by simp));have HWO:Hid (∀y ∈ l,∀x ∈ y.ops,OpW x.o):=fun y hy=>(HSL.out.2 y hy).1.2;have HVT:Hid (∀y ∈ l,vTx y.pl=true):=fun y hy=>(hvt y hy).1;have HCK:Hid (cR (plT l)=0):=DA (by unfold plT;rw[List.length_map];omega) (by intro x hx;unfold plT at hx;obtain⟨y,hy,rfl⟩:=List.mem_map.1 hx;exact(hvt y hy).1) (Gm hpw);have HNE:Hid ((plT l).Pairwise (fun a b=>a.src≠b.src)):=EW hpw;have HGS:=sH (HGS.out.fr F4).weak;have hgb:=bg.fr F4 (by intro e;injection e with e;omega);have FX:=FX.new F4 hsb;obtain⟨At,ct,hov, -, -,hcell⟩:=iD HSL.out.1;subst hov;have HC:=sH hcell;have hlm5:l.length≤5:=hl5;clear k0 k1 k2 k3 k4 k5 k6 bg S3 S4 F4 hSl hvt hpw hcell hlm hl5;have HCC:=sH (CC HOK.out.ok HCK.out (by have:=HOK.out.num;omega));obtain⟨X,hX⟩:∃X:Lgr,X={(bZ (plT l) G).1 with num:=(bZ (plT l) G).1.num+1}:=⟨_,rfl⟩;obtain⟨rr,hrr⟩:∃rr,rr=(bZ (plT l) G).2:=⟨_,rfl⟩;have HXN:Hid (X.num=G.num+1):=by
  unfold Hid;rw[hX];show(bZ (plT l) G).1.num+1=G.num+1;rw[(mJ (plT l) G HOK.out.ok).num]
 have HXF:Hid (X.fees=G.fees+kI (plT l) rr):=by unfold Hid;rw[hX,hrr];exact(mJ (plT l) G HOK.out.ok).fees
 have HRL:Hid (rr.length=l.length):=by
  unfold Hid;rw[hrr,vO];unfold plT;rw[List.length_map]
 have HXA:Hid (X.accs=(bZ (plT l) G).1.accs):=by unfold Hid;rw[hX]
 have HCL:Hid (zT G (plT l)=((X,rr),0)):=by unfold Hid;rw[hX,hrr];exact HCC.out.1
 have HXK:Hid (aI X=0):=by unfold Hid;rw[hX];exact HCC.out.2
 have HXX:=sH hX;have HRR:=sH hrr;clear hX hrr HCC;obtain⟨k0,k1,k2,k3,k4,k5,k6⟩:=hgb.cells;go_wp2_with fail;refine(CJ G _ _ _ l _ w4 HGS.out HSL.out HWO.out).mono ?_;rw[HCL.out];rintro e w5 ⟨Ya,ya,yac,Yl,yl,ylc,Yo,yo,yoc,Ar,cr,rfl,hL,own,F5⟩;clear k0 k1 k2 k3 k4 k5 k6;dsimp only at hL own ⊢;rw[HRL.out] at own ⊢;go_upto_region 5 with(fail)
 generalize hW:w5.alloc _=w6;have F6:Fr none w5 w6:=hW▸(Fr.refl none w5).alloc _;have hyb:LgB w6 w5.heap.size X (.slice Ya ya yac) (.slice Yl yl ylc) (.slice Yo yo yoc):=by rw[←hW];exact aD _ _
 clear hW;have HOWN:=sH (aQ own F6 (by simp));have HYS:Hid (LgS w6 none X (.slice Ya ya yac) (.slice Yl yl ylc) (.slice Yo yo yoc)):=(hL none (by simp)).fr F6;have HYB:=sH hyb;have HGB:=sH ((hgb.fr F5).fr F6);have FX4:Fr none w4 w6:=F5.pure F6;have FXX:=FX.pure FX4;have HRK:Hid (rr.length=l.length):=HRL.out;clear own hL hyb hgb F5 F6 FX;go_wp2_with fail;go_loopw [9,41] (fun s9 s41 wr=>∃(k:Nat) (f:Int),k≤l.length∧s41= .int .i64 (k:Int)∧s9= .int .i64 f∧Hid (f=kI ((plT l).take k) (rr.take k))∧Hid (0≤f)∧Hid (f≤100000*k)∧Fr none w6 wr) (fun _ s41 _=>l.length - (intOf s41).toNat)
 case atStart=>exact⟨0,0,Nat.zero_le _,rfl,rfl,rfl,Int.le_refl _,by unfold Hid;simp,Fr.refl _ _⟩
 case round=>
  obtain⟨k,f,hk,rfl,rfl,HF,HF0,HF1,F⟩:=hrel;by_cases hlt:k<l.length
  ·obtain⟨b2,off2,rfl,hb2,_,hxx⟩:=HC.out (by omega);obtain⟨d0,d1,d2,d3⟩:=hxx k hlt;have F4r:=FX4.pure F;have d0:=F4r.keep d0;have d1:=F4r.keep d1;have d2:=F4r.keep d2;have d3:=F4r.keep d3;have hkr:k<rr.length:=by rw[HRK.out];exact hlt
   obtain⟨rb,rfl⟩:=dI HOWN.out (by omega);have e1w:=(aX HOWN.out).2.1 _ _ ((bR EV rr k hkr 1 (by decide)).trans rfl);have e1w:w6.cell? ⟨rb,k*2+1,none⟩=some (.int .i64 rr[k].2):=e1w;have hrbl:=(aX HOWN.out).2.2.1;have HFE:=sH (Ek (HVT.out _ (List.getElem_mem hlt)));have HSEQ:Hid (∀x,aJ G.accs l[k].src=some x→∃y,aJ X.accs l[k].src=some y∧y.seq=x.seq+(if 0≤rr[k].2 then 1 else 0)∧(0≤rr[k].2→y.seq=l[k].seq)):=fun x hx=>by
    have hkp:k<(plT l).length:=by unfold plT;rw[List.length_map];exact hlt
    have:=Ef HOK.out.ok HNE.out hkp (r:=rr[k]) (by rw[←HRR.out];exact List.getElem?_eq_getElem hkr) (x:=x) (by rw[xA hlt];exact hx);rw[xA hlt,←HXA.out] at this;exact this
   have HFT:Hid (kI ((plT l).take (k+1)) (rr.take (k+1))=f+if 0≤rr[k].2 then l[k].fee else 0):=by
    unfold Hid;rw[rN _ _ k (by unfold plT;rw[List.length_map];exact hlt) hkr,xA hlt,HF.out];rfl
   clear hxx;generalize l[k]=y at*
   generalize rr[k]=r at*
   obtain⟨ts,tq,tf,ops,Ay,cy⟩:=y;unfold TxX.v at d3;dsimp only at d0 d1 d2 d3;have HFE:Hid (1≤tf∧tf≤100000):=HFE.out;have HFT:Hid (kI ((plT l).take (k+1)) (rr.take (k+1))=f+if 0≤r.2 then tf else 0):=HFT.out;have HSEQ:Hid (∀x,aJ G.accs ts=some x→∃y,aJ X.accs ts=some y∧y.seq=x.seq+(if 0≤r.2 then 1 else 0)∧(0≤r.2→y.seq=tq)):=HSEQ.out;have hkl:(k:Int)<(l.length:Int):=by omega
   go_upto_region 11 with(fail)
   generalize hWb:wr.alloc _=wb;have Fb0:Fr none wr wb:=hWb▸(Fr.refl none wr).alloc _;have htb:TxB wb wr.heap.size ⟨ts,tq,tf,ops,Ay,cy⟩:=by rw[←hWb];exact aD _ _
   clear hWb d0 d1 d2 d3;have Fb:Fr none w6 wb:=F.pure Fb0;have FRb:=Fb;have e1:=Fb.keep e1w;by_cases hr0:0≤r.2
   ·have HNF:Hid (f+tf=kI ((plT l).take (k+1)) (rr.take (k+1))):=by unfold Hid;rw[HFT.out,if_pos hr0]
    have dd:decide (0≤r.2)=true:=decide_eq_true hr0;have HW9:Hid (IntKind.i64.wrap (f+tf)=f+tf):=fP (by have:=HF0.out;have:=HFE.out;omega) (by have:=HF1.out;have:=HFE.out;omega);have hw9:=HW9.out;clear hr0;obtain⟨t0,t1,t2,t3⟩:=aZ htb;dsimp only at t0 t1 t2 t3;go_upto_region 13 with(fail)
    clear hw9 t0 t1 t2 t3 dd e1;obtain⟨q0,q1,q2⟩:True∧True∧True:=⟨trivial,trivial,trivial⟩;have hgb:=HGB.out.fr FRb;obtain⟨k0,k1,k2,k3,k4,k5,k6⟩:=hgb.cells;have htx:=htb.fr (Fr.refl none _);obtain⟨t0,t1,t2,t3⟩:=aZ htb;dsimp only at t0 t1 t2 t3;go_wp2_with fail;refine(cX G.accs _ ts wb (HGS.out.1.fr (FX4.pure Fb))).mono ?_;rintro e wc ⟨rfl,Fc⟩;unfold oO;clear k0 k1 k2 k3 k4 k5 k6;clear t0 t1 t2 t3 htx q0 q1 q2;go_upto_region 14 with(fail)
    generalize hWd:wc.alloc _=wd;have hab:wd.heap[wc.heap.size]?=some (.cells #[.int .i64 (cC G.accs ts).1.id,.int .i64 (cC G.accs ts).1.bal,.int .i64 (cC G.accs ts).1.seq] 59 (0,0)):=by rw[←hWd];exact aD _ _
    have Fd:Fr none wb wd:=Fc.pure (hWd▸(Fr.refl none wc).alloc _);clear hWd Fc;have hyb:=HYB.out.fr (F.pure (Fb0.pure Fd));have htd:=htb.fr Fd;obtain⟨y0,y1,y2,y3,y4,y5,y6⟩:=hyb.cells;obtain⟨t0,t1,t2,t3⟩:=aZ htd;dsimp only at t0 t1 t2 t3;go_wp2_with fail;refine(cX X.accs _ ts wd (HYS.out.1.fr (F.pure (Fb0.pure Fd)))).mono ?_;rintro e we ⟨rfl,Fe⟩;unfold oO;clear y0 y1 y2 y3 y4 y5 y6 t0 t1 t2 t3;go_upto_region 15 with(fail)
    generalize hWf:we.alloc _=wf;have hbb:wf.heap[we.heap.size]?=some (.cells #[.int .i64 (cC X.accs ts).1.id,.int .i64 (cC X.accs ts).1.bal,.int .i64 (cC X.accs ts).1.seq] 59 (0,0)):=by rw[←hWf];exact aD _ _
    have Fe2:Fr none we wf:=hWf▸(Fr.refl none we).alloc _;have Ff:Fr none wb wf:=(Fd.pure Fe).pure Fe2;have hab:=aF hab (Fe.pure Fe2) (by simp);clear hWf Fe Fe2 Fd hyb htd;have a2:wf.cell? ⟨wc.heap.size,2,none⟩=some (.int .i64 (cC G.accs ts).1.seq):=by rw[aA hab];rfl
    have b2':wf.cell? ⟨we.heap.size,2,none⟩=some (.int .i64 (cC X.accs ts).1.seq):=by rw[aA hbb];rfl
    have e1':=(F.pure (Fb0.pure Ff)).keep e1w;clear hab hbb;cases hfa:aJ G.accs ts with
    |none=>
     rw[rO hfa] at a2 ⊢;clear hfa;exact EX
    |some a=>
     obtain⟨b,hb1,hb2, -⟩:=HSEQ.out a hfa;rw[kG hfa] at a2 ⊢;rw[kG hb1] at b2' ⊢;dsimp only at a2 b2' ⊢;have HSB:=sH hb2;have HAS:=sH (yK HOK.out.ok hfa);clear hfa hb1 hb2;by_cases hr:0≤r.2
     ·have d1:decide (0≤r.2)=true:=decide_eq_true hr;have d2:decide (r.2<0)=false:=decide_eq_false (by omega);have hs:=HSB.out;rw[if_pos hr] at hs;have hw1:IntKind.i64.wrap (a.seq+1)=a.seq+1:=fP (by have:=HAS.out;omega) (by have:=HAS.out;omega);have hq1:(b.seq !=a.seq+1)=false:=by simp[hs]
      clear hr hs;exact EX
     have d1:decide (0≤r.2)=false:=decide_eq_false hr;have d2:decide (r.2<0)=true:=decide_eq_true (by omega);have hs:=HSB.out;rw[if_neg hr,Int.add_zero] at hs;have hq1:(b.seq !=a.seq)=false:=by simp[hs]
     clear hr hs;exact EX
   have HNF:Hid (f=kI ((plT l).take (k+1)) (rr.take (k+1))):=by unfold Hid;rw[HFT.out,if_neg hr0,Int.add_zero]
   have dd:decide (0≤r.2)=false:=decide_eq_false hr0;clear hr0;go_upto_region 13 with(fail)
   clear dd e1;obtain⟨q0,q1,q2⟩:True∧True∧True:=⟨trivial,trivial,trivial⟩;have hgb:=HGB.out.fr FRb;obtain⟨k0,k1,k2,k3,k4,k5,k6⟩:=hgb.cells;have htx:=htb.fr (Fr.refl none _);obtain⟨t0,t1,t2,t3⟩:=aZ htb;dsimp only at t0 t1 t2 t3;go_wp2_with fail;refine(cX G.accs _ ts wb (HGS.out.1.fr (FX4.pure Fb))).mono ?_;rintro e wc ⟨rfl,Fc⟩;unfold oO;clear k0 k1 k2 k3 k4 k5 k6;clear t0 t1 t2 t3 htx q0 q1 q2;go_upto_region 14 with(fail)
   generalize hWd:wc.alloc _=wd;have hab:wd.heap[wc.heap.size]?=some (.cells #[.int .i64 (cC G.accs ts).1.id,.int .i64 (cC G.accs ts).1.bal,.int .i64 (cC G.accs ts).1.seq] 59 (0,0)):=by rw[←hWd];exact aD _ _
   have Fd:Fr none wb wd:=Fc.pure (hWd▸(Fr.refl none wc).alloc _);clear hWd Fc;have hyb:=HYB.out.fr (F.pure (Fb0.pure Fd));have htd:=htb.fr Fd;obtain⟨y0,y1,y2,y3,y4,y5,y6⟩:=hyb.cells;obtain⟨t0,t1,t2,t3⟩:=aZ htd;dsimp only at t0 t1 t2 t3;go_wp2_with fail;refine(cX X.accs _ ts wd (HYS.out.1.fr (F.pure (Fb0.pure Fd)))).mono ?_;rintro e we ⟨rfl,Fe⟩;unfold oO;clear y0 y1 y2 y3 y4 y5 y6 t0 t1 t2 t3;go_upto_region 15 with(fail)
   generalize hWf:we.alloc _=wf;have hbb:wf.heap[we.heap.size]?=some (.cells #[.int .i64 (cC X.accs ts).1.id,.int .i64 (cC X.accs ts).1.bal,.int .i64 (cC X.accs ts).1.seq] 59 (0,0)):=by rw[←hWf];exact aD _ _
   have Fe2:Fr none we wf:=hWf▸(Fr.refl none we).alloc _;have Ff:Fr none wb wf:=(Fd.pure Fe).pure Fe2;have hab:=aF hab (Fe.pure Fe2) (by simp);clear hWf Fe Fe2 Fd hyb htd;have a2:wf.cell? ⟨wc.heap.size,2,none⟩=some (.int .i64 (cC G.accs ts).1.seq):=by rw[aA hab];rfl
   have b2':wf.cell? ⟨we.heap.size,2,none⟩=some (.int .i64 (cC X.accs ts).1.seq):=by rw[aA hbb];rfl
   have e1':=(F.pure (Fb0.pure Ff)).keep e1w;clear hab hbb;cases hfa:aJ G.accs ts with
   |none=>
    rw[rO hfa] at a2 ⊢;clear hfa;go_wp2_with fail;go_roundw
    case rel=>exact⟨k+1,f,hlt,by go_num,rfl,HNF,HF0,(by have:=HF1.out;unfold Hid;omega),F.pure (Fb0.pure Ff)⟩
    case measure=>simp[intOf]<;>omega
   |some a=>
    obtain⟨b,hb1,hb2, -⟩:=HSEQ.out a hfa;rw[kG hfa] at a2 ⊢;rw[kG hb1] at b2' ⊢;dsimp only at a2 b2' ⊢;have HSB:=sH hb2;have HAS:=sH (yK HOK.out.ok hfa);clear hfa hb1 hb2;by_cases hr:0≤r.2
    ·have d1:decide (0≤r.2)=true:=decide_eq_true hr;have d2:decide (r.2<0)=false:=decide_eq_false (by omega);have hs:=HSB.out;rw[if_pos hr] at hs;have hw1:IntKind.i64.wrap (a.seq+1)=a.seq+1:=fP (by have:=HAS.out;omega) (by have:=HAS.out;omega);have hq1:(b.seq !=a.seq+1)=false:=by simp[hs]
     clear hr hs;go_wp2_with fail;go_roundw
     case rel=>exact⟨k+1,f,hlt,by go_num,rfl,HNF,HF0,(by have:=HF1.out;unfold Hid;omega),F.pure (Fb0.pure Ff)⟩
     case measure=>simp[intOf]<;>omega
    have d1:decide (0≤r.2)=false:=decide_eq_false hr;have d2:decide (r.2<0)=true:=decide_eq_true (by omega);have hs:=HSB.out;rw[if_neg hr,Int.add_zero] at hs;have hq1:(b.seq !=a.seq)=false:=by simp[hs]
    clear hr hs;go_wp2_with fail;go_roundw
    case rel=>exact⟨k+1,f,hlt,by go_num,rfl,HNF,HF0,(by have:=HF1.out;unfold Hid;omega),F.pure (Fb0.pure Ff)⟩
    case measure=>simp[intOf]<;>omega
  obtain rfl:k=l.length:=by omega
  have hgb:=HGB.out.fr F;have hyb:=HYB.out.fr F;have FX:=FXX.pure F;have HX:Hid (X.fees=G.fees+f):=by
   unfold Hid;rw[HXF.out,HF.out,List.take_of_length_le (by unfold plT;simp),List.take_of_length_le (by rw[HRK.out];exact Nat.le_refl _)]
  have hw1:IntKind.i64.wrap (G.fees+f)=G.fees+f:=fP (by have:=HF0.out;have:=HOK.out.fees;omega) (by have:=HF1.out;have:=HOK.out.fees;omega);have hq:(X.fees == G.fees+f)=true:=by simp[HX.out]
  obtain⟨k0,k1,k2,k3,k4,k5,k6⟩:=hgb.cells;obtain⟨y0,y1,y2,y3,y4,y5,y6⟩:=hyb.cells;go_wp2_with fail;refine(wM _ (HE.out.frs FX (by simp) (by simp)) (HM.out.frs FX (by simp)) (HT.out.fr FX) (Nat.lt_of_lt_of_le HMX.out FX.size)).mono ?_;rintro e w99 ⟨rfl,F99⟩;go_wp2;go_ret;exact⟨rfl,FX.pure F99⟩
end Go.Proofs.YthaggndnfamhjaaGreatDoor
