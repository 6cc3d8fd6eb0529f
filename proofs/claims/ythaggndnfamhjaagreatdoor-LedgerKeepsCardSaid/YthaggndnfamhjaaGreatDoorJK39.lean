/- Texts, joined. -/
import Derived.Test.YthaggndnfamhjaaGreatDoorProg
import Derived.Test.YthaggndnfamhjaaGreatDoorJK24
import Derived.Test.YthaggndnfamhjaaGreatDoorJK22
import Derived.Test.YthaggndnfamhjaaGreatDoorJK13
import Derived.Test.YthaggndnfamhjaaGreatDoorJK38
import Derived.Test.YthaggndnfamhjaaGreatDoorJK29
import Derived.Test.YthaggndnfamhjaaGreatDoorJA

set_option linter.unusedSimpArgs false
set_option linter.unusedVariables false
set_option maxRecDepth 100000
set_option maxHeartbeats 16000000
namespace Go.Proofs.YthaggndnfamhjaaGreatDoor
open Go.RowKit
theorem Fu(g:Lgr)(n:Int)(a:Ast):sup {g with num:=n} a=sup g a:=rfl
theorem GE{G:Lgr}{L:List Txn}{n:Int}(hn:0≤n)(h:eX n G.accs)(hl:L.length≤4):eX (n+4) (cG L G).1.accs:=fun x hx=>by
 have:=zK L G n hn h x hx;omega
theorem GF{l:List aQ}(h:GA l):eX 2 l:=fun x hx=>by
 obtain⟨k,hk,rfl⟩:=List.getElem_of_mem hx;exact(h k hk).2.2.2.2
theorem Dz{a:Ast}{acc:Int}(h:(acc == a.iss)=false):Qt a acc:=.inr (fun e=>by rw[e] at h;simp at h)
theorem lawLk_any(v:Value)(t:List Int)(w:World)(ht:SlI w none v t)(hT:Tab w)(hE:Errs w)(hM:Mxl w):
  Calls Tryz.prog 6 #[v] w fun e w'=>e= .returned (.bool true)∧Fr none w w':=by
 have HT:=sH hT;have HE:=sH hE;have HM:=sH hM;have HMX:Hid (0<w.heap.size):=by obtain⟨m,h⟩:=hM;exact World.block_lt_of_cell? w _ h
 clear hT hE hM;go_enter Tryz.func6,Tryz.ntmps6;go_wp2_with fail;refine(wZ v t w ht).mono ?_;rintro e w1 ⟨sb,rfl,hsb,S1,F1⟩;go_wp2_with fail;refine(xG sb w1 S1).mono ?_;rintro e w2 ⟨va,vl,vo,G,rfl,hG,hok,S2,F2⟩;unfold bxv;have hs1:=S1.lt;obtain⟨A1,ca,rfl,_,_,_⟩:=aN (hG.lgs none (by simp)).1;obtain⟨A2,cl,rfl,_,_,_⟩:=aU (hG.lgs none (by simp)).2.1;obtain⟨A3,co,rfl,_,_,_⟩:=bA (hG.lgs none (by simp)).2.2.1;have HGS:Hid (LgS w2 (some sb) G (.slice A1 G.accs.length ca) (.slice A2 G.lines.length cl) (.slice A3 G.offers.length co)):=hG.lgs (some sb) (by intro q e;injection e with e;omega);have HOK:=sH hok;have FX:Fr none w w2:=F1.new F2 hsb;have hs2:=F2.size;clear S1 F1 F2 ht hG hok;go_upto_region 3 with(fail)
 obtain⟨gb,hgb⟩:∃gb,gb=w2.heap.size:=⟨_,rfl⟩;rw[←hgb];generalize hW:w2.alloc _=w3;have F3:Fr none w2 w3:=hW▸(Fr.refl none w2).alloc _;have bg:LgB w3 gb G (.slice A1 G.accs.length ca) (.slice A2 G.lines.length cl) (.slice A3 G.offers.length co):=by rw[←hW,hgb];exact aD _ _
 have hgb2:sb<gb:=by omega
 clear hW hgb;have S3:=S2.fr F3;have HGS:=sH (HGS.out.fr F3.mono);have FX:=FX.pure F3;clear S2 F3 hs2;obtain⟨k0,k1,k2,k3,k4,k5,k6⟩:=bg.cells;clear k0 k1 k2 k3 k4 k5 k6;have hgl:gb<w3.heap.size:=aC bg;have hwg:w.heap.size≤gb:=by omega
 go_wp2_with fail;go_loopw [5] (fun s5 wr=>∃(k:Nat) (H:Lgr) (Aa:Option Addr) (na nac:Nat) (Al:Option Addr) (nl nlc:Nat) (Ao:Option Addr) (no noc:Nat),k≤3∧s5= .int .i64 (k:Int)∧Hid (aH H=0)∧Hid (0≤H.num∧H.num≤4+k)∧Hid (eX (2+4*k) H.accs)∧LgB wr gb H (.slice Aa na nac) (.slice Al nl nlc) (.slice Ao no noc)∧Hid (LgS wr (some sb) H (.slice Aa na nac) (.slice Al nl nlc) (.slice Ao no noc))∧bP 69 wr sb∧Fr none w wr) (fun s5 _=>3 - (intOf s5).toNat)
 case atStart=>exact⟨0,G,A1,_,ca,A2,_,cl,A3,_,co,by omega,rfl,HOK.out.ok,(by have:=HOK.out.num;unfold Hid;omega),GF HOK.out.ga,bg,HGS,S3,FX⟩
 case round=>
  clear bg S3 FX;obtain⟨k,H,Aa,na,nac,Al,nl,nlc,Ao,no,noc,hk,rfl,HCH,HNM,HSN,hgb,HHS,S3,FX⟩:=hrel;obtain⟨wz,hwz⟩:∃wz:World,wz=wr:=⟨_,rfl⟩;subst hwz;by_cases hk3:k<3
  ·have dk:decide ((k:Int)<3)=true:=decide_eq_true (by omega);obtain⟨A9,c9,e9, -, -, -⟩:=aN HHS.out.1;injection e9 with e91 e92 e93
   subst e91 e92 e93;obtain⟨A8,c8,e8, -, -, -⟩:=bA HHS.out.2.2.1;injection e8 with e81 e82 e83
   subst e81 e82 e83;obtain⟨k0,k1,k2,k3,k4,k5,k6⟩:=hgb.cells;go_wp2_with fail;refine(xJ sb H Aa Al Ao nl H.offers.length nac nlc noc 4 wz (by omega) S3 HHS.out.1 (SqB.of (fun x hx=>⟨GD HCH.out hx,by have:=HSN.out x hx;omega⟩))).mono ?_;rintro e w4 ⟨vt,l,rfl,hSl,hlm,hl5,hvt,hpw,S4,F4⟩;clear k0 k1 k2 k3 k4 k5 k6;have HSL:=sH (hSl.t none (by simp));have HWO:Hid (∀y ∈ l,∀x ∈ y.ops,OpW x.o):=fun y hy=>(HSL.out.2 y hy).1.2;have HCK:Hid (cS (plT l)=0):=Ej (by unfold plT;rw[List.length_map];omega) (by intro x hx;unfold plT at hx;obtain⟨y,hy,rfl⟩:=List.mem_map.1 hx;exact(hvt y hy).1) (Hv hpw);have HHS:=sH (HHS.out.fr F4);have hgb:=hgb.fr F4 (by intro e;injection e with e;omega);have FX:=FX.new F4 hsb;obtain⟨At,ct,hov, -, -,hcell⟩:=iO HSL.out.1;subst hov;have HC:=sH hcell;have HL4:Hid (l.length≤4):=hlm;have HOP:Hid (∀y ∈ l,y.ops.length≤4):=fun y hy=>by
    have:=(hvt y hy).1;rw[tE] at this;simp only[Bool.and_eq_true,eF] at this;omega
   clear S3 F4 hSl hvt hpw hcell hlm hl5;have HCC:=sH (Dl HCH.out HCK.out (by have:=HNM.out;omega));obtain⟨X,hX⟩:∃X:Lgr,X={(cG (plT l) H).1 with num:=(cG (plT l) H).1.num+1}:=⟨_,rfl⟩;obtain⟨rr,hrr⟩:∃rr,rr=(cG (plT l) H).2:=⟨_,rfl⟩;have HXN:Hid (X.num=H.num+1):=by
    unfold Hid;rw[hX];show(cG (plT l) H).1.num+1=H.num+1;rw[(uD (plT l) H HCH.out).num]
   have HXL:Hid (X.link=H.link):=by unfold Hid;rw[hX];exact(uD (plT l) H HCH.out).link
   have HRL:Hid (rr.length=l.length):=by
    unfold Hid;rw[hrr,wO];unfold plT;rw[List.length_map]
   have HXS:Hid (eX (2+4*((k+1:Nat):Int)) X.accs):=by
    have:=GE (L:=plT l) (by omega) HSN.out (by unfold plT;rw[List.length_map];exact HL4.out);unfold Hid;rw[hX,show(2+4*((k+1:Nat):Int))=2+4*(k:Int)+4 by omega];exact this
   have HSP:Hid (∀a:Ast,(∀y ∈ l,Qt a y.src∧∀x ∈ y.ops,Qt a x.o.to_)→QtO a H→sup X a=sup H a):=fun a h1 h2=>by
    rw[hX,Fu];refine(zI (plT l) H HCH.out (fun t ht=>?_) h2).1;unfold plT at ht;obtain⟨y,hy,rfl⟩:=List.mem_map.1 ht;refine⟨(h1 y hy).1,fun o ho=>?_⟩;obtain⟨x,hx,rfl⟩:=List.mem_map.1 ho;exact(h1 y hy).2 x hx
   have HCL:Hid (Ax H (plT l)=((X,rr),0)):=by unfold Hid;rw[hX,hrr];exact HCC.out.1
   have HXK:Hid (aH X=0):=by unfold Hid;rw[hX];exact HCC.out.2
   clear hX hrr HCC;obtain⟨k0,k1,k2,k3,k4,k5,k6⟩:=hgb.cells;go_wp2_with fail;refine(Du H _ _ _ l _ w4 HHS.out.weak HSL.out HWO.out).mono ?_;rw[HCL.out];rintro e w5 ⟨Ya,ya,yac,Yl,yl,ylc,Yo,yo,yoc,Ar,cr,rfl,hL,own,F5⟩;clear k0 k1 k2 k3 k4 k5 k6;dsimp only at hL own ⊢;rw[HRL.out];clear own;have hs4:sb<w4.heap.size:=S4.lt;go_upto_region 8 with(fail)
   generalize hW:w5.alloc _=w6;have F6:Fr none w5 w6:=hW▸(Fr.refl none w5).alloc _;have hyb:LgB w6 w5.heap.size X (.slice Ya ya yac) (.slice Yl yl ylc) (.slice Yo yo yoc):=by rw[←hW];exact aD _ _
   clear hW;have F46:Fr none w4 w6:=F5.pure F6;have hg4:gb<w4.heap.size:=aC hgb;have HYS:Hid (LgI w6 (fun k=>k=sb∨k=gb) X (.slice Ya ya yac) (.slice Yl yl ylc) (.slice Yo yo yoc)):=LgI.fr (fun q hq=>hL q (fun k e=>by have:=hq k e;omega)) F6 (by simp);have HHS:=sH (HHS.out.fr F46.mono);have hgb:=hgb.fr F46;have S6:=S4.fr F46;have FX:=FX.pure F46;have HF46:=sH F46;clear F5 F6 F46 hL S4;have HSX:Hid (sup X nat=sup H nat):=HSP.out nat (fun y _=>⟨.inl rfl,fun x _=>.inl rfl⟩) (fun o _=>.inl rfl);have HWN:Hid (IntKind.i64.wrap (H.num+1)=H.num+1):=gY (by have:=HNM.out;omega) (by have:=HNM.out;omega);refine aL (fun W=>Fr none w6 W) 38 142 [some 74,some 73,some 72,some 71,some 70,some 69,some 68,some 67,some 66,some 65,some 64,some 63,some 62,some 61,some 60,some 59,some 58,some 57,some 56,some 55,some 54,some 53,some 52,some 51,some 50,some 49,some 48,some 47,some 46,some 45,some 44,some 43,some 42,some 41,some 40,some 39,some 38,some 37] (by kernel_rfl) (by kernel_rfl) (by kernel_rfl) (Nat.le_refl _) ((Fr.refl _ _).drew) ?_;refine FxL.p [] [9] ?_;refine FxL.p [(0,0,37)] [] ?_;refine FxL.p [(0,1,38)] [] ?_;refine FxL.gp 0 [] [8] ?_;refine FxL.gp 1 [(0,3,40)] [] ?_;refine FxL.gp 2 [] [6] ?_;refine FxL.gp 3 [(0,5,42)] [] ?_;refine FxL.gp 4 [(2,4,41),(0,6,43)] [] ?_;refine FxL.p [(5,2,39),(0,7,44)] [] ?_;refine FxL.p [(0,8,45)] [] ?_;have HF1:=sH (fun(w:World) (hS:(fun W=>Fr none w6 W) w)=>And.intro ((hgb.fr hS).cells) ((hyb.fr hS).cells));refine FxL.gq HF1.out 0 [] [7] ?_;refine FxL.gcall (v:=?_) (f:=?_) (args:=?_) rfl 1 rfl rfl (fun ev w hS E=>?_) (fun w hS=>?_) ?_;rotate_left 3
   ·obtain⟨k0,k1,k2,k3,k4,k5,k6⟩:=(hgb.fr hS).cells;obtain⟨y0,y1,y2,y3,y4,y5,y6⟩:=(hyb.fr hS).cells;obtain⟨t47,ec,ef,eg⟩:=E.get [(0,10,47)] [] (by kernel_rfl);clear E;simp only[aG] at t47;go_simp;first|(refine And.intro ?_ ?_<;>with_reducible rfl)|with_reducible rfl
   ·obtain⟨k0,k1,k2,k3,k4,k5,k6⟩:=(hgb.fr hS).cells;obtain⟨y0,y1,y2,y3,y4,y5,y6⟩:=(hyb.fr hS).cells;refine(rB X _ _ _ w (HYS.out.nn.fr hS)).mono ?_;rintro e w2 ⟨rfl,F2⟩;refine⟨?_,hS.pure F2⟩;with_reducible rfl
   refine FxL.gpure (v:=?_) rfl 2 rfl rfl (fun ev w hS E=>?_) ?_;rotate_left
   ·obtain⟨t48,ec,ef,eg⟩:=E.get [(0,11,48)] [] (by kernel_rfl);clear E;simp only[aG] at t48;rw[HXK.out] at t48;go_simp;try with_reducible rfl
   refine FxL.p [(3,9,46),(0,12,49)] [] ?_;refine FxL.p [(0,13,50)] [] ?_;refine FxL.gq HF1.out 0 [] [7] ?_;refine FxL.gp 1 [] [] ?_;refine FxL.gcall (v:=?_) (f:=?_) (args:=?_) rfl 2 rfl rfl (fun ev w hS E=>?_) (fun w hS=>?_) ?_;rotate_left 3
   ·obtain⟨k0,k1,k2,k3,k4,k5,k6⟩:=(hgb.fr hS).cells;obtain⟨y0,y1,y2,y3,y4,y5,y6⟩:=(hyb.fr hS).cells;obtain⟨t52,t53,ec,ef,eg⟩:=E.get [(1,15,52),(0,16,53)] [] (by kernel_rfl);clear E;simp only[aG] at t52 t53;go_simp;first|(refine And.intro ?_ ?_<;>with_reducible rfl)|with_reducible rfl
   ·obtain⟨k0,k1,k2,k3,k4,k5,k6⟩:=(hgb.fr hS).cells;obtain⟨y0,y1,y2,y3,y4,y5,y6⟩:=(hyb.fr hS).cells;refine(mG X _ _ _ nat w (HYS.out.nn.fr hS) HXK.out).mono ?_;rintro e w2 ⟨rfl,F2⟩;refine⟨?_,hS.pure F2⟩;with_reducible rfl
   refine FxL.gq HF1.out 3 [] [4] ?_;refine FxL.gp 4 [] [] ?_;refine FxL.gcall (v:=?_) (f:=?_) (args:=?_) rfl 5 rfl rfl (fun ev w hS E=>?_) (fun w hS=>?_) ?_;rotate_left 3
   ·obtain⟨k0,k1,k2,k3,k4,k5,k6⟩:=(hgb.fr hS).cells;obtain⟨y0,y1,y2,y3,y4,y5,y6⟩:=(hyb.fr hS).cells;obtain⟨t55,t56,ec,ef,eg⟩:=E.get [(1,18,55),(0,19,56)] [] (by kernel_rfl);clear E;simp only[aG] at t55 t56;go_simp;first|(refine And.intro ?_ ?_<;>with_reducible rfl)|with_reducible rfl
   ·obtain⟨k0,k1,k2,k3,k4,k5,k6⟩:=(hgb.fr hS).cells;obtain⟨y0,y1,y2,y3,y4,y5,y6⟩:=(hyb.fr hS).cells;refine(mG H _ _ _ nat w (HHS.out.weak.fr hS) HCH.out).mono ?_;rintro e w2 ⟨rfl,F2⟩;refine⟨?_,hS.pure F2⟩;with_reducible rfl
   refine FxL.gpure (v:=?_) rfl 6 rfl rfl (fun ev w hS E=>?_) ?_;rotate_left
   ·obtain⟨t54,t57,ec,ef,eg⟩:=E.get [(3,17,54),(0,20,57)] [] (by kernel_rfl);clear E;simp only[aG] at t54 t57;rw[HSX.out] at t54;go_simp;try with_reducible rfl
   refine FxL.p [(7,14,51),(0,21,58)] [] ?_;refine FxL.p [(0,22,59)] [] ?_;refine FxL.gp 0 [] [7] ?_;refine FxL.gq HF1.out 1 [(0,24,61)] [] ?_;refine FxL.gp 2 [] [4] ?_;refine FxL.gq HF1.out 3 [(0,26,63)] [] ?_;refine FxL.gpure (v:=?_) rfl 4 rfl rfl (fun ev w hS E=>?_) ?_;rotate_left
   ·obtain⟨t64,ec,ef,eg⟩:=E.get [(0,27,64)] [] (by kernel_rfl);clear E;simp only[aG] at t64;have hw9:=HWN.out;go_simp;try with_reducible rfl
   refine FxL.gpure (v:=?_) rfl 5 rfl rfl (fun ev w hS E=>?_) ?_;rotate_left
   ·obtain⟨t62,t65,ec,ef,eg⟩:=E.get [(3,25,62),(0,28,65)] [] (by kernel_rfl);clear E;simp only[aG] at t62 t65;rw[HXN.out] at t62;go_simp;try with_reducible rfl
   refine FxL.p [(6,23,60),(0,29,66)] [] ?_;refine FxL.p [(0,30,67)] [] ?_;refine FxL.gp 0 [] [7] ?_;refine FxL.gq HF1.out 1 [(0,32,69)] [] ?_;refine FxL.gp 2 [] [4] ?_;refine FxL.gq HF1.out 3 [(0,34,71)] [] ?_;refine FxL.gpure (v:=?_) rfl 4 rfl rfl (fun ev w hS E=>?_) ?_;rotate_left
   ·obtain⟨t70,t72,ec,ef,eg⟩:=E.get [(2,33,70),(0,35,72)] [] (by kernel_rfl);clear E;simp only[aG] at t70 t72;rw[HXL.out] at t70;go_simp;try with_reducible rfl
   refine FxL.p [(5,31,68),(0,36,73)] [] ?_;refine FxL.done (fun W hW=>?_);simp only[bF];try simp only[sI]
   try simp only[sK]
   have hgb:=hgb.fr hW;have hyb:=hyb.fr hW;have S6:=S6.fr hW;have FX:=FX.pure hW;have HYS:=sH (HYS.out.fr hW);have HHS:=sH (HHS.out.fr hW.mono);have HF4:=sH (HF46.out.pure hW);clear hW HWN HSX HF46;go_wp2_with fail;refine(lP W).mono ?_;rintro e w7 ⟨rfl,F7⟩;go_wp2_with fail;refine(nY w7).mono ?_;rintro e w8 ⟨rfl,F8⟩;have F78:=F7.pure F8;have hgb:=hgb.fr F78;have hyb:=hyb.fr F78;have S6:=S6.fr F78;have FX:=FX.pure F78;have HYS:=sH (HYS.out.fr F78);have HHS:=sH (HHS.out.fr F78.mono);have HF4:=sH (HF4.out.pure F78);have HGB:=sH hgb;have HYB:=sH hyb;have HS6:=sH S6;have HFX:=sH FX;clear F7 F8 F78 hgb hyb S6 FX;go_wp2_with fail;go_loopw [78] (fun s78 wr=>∃i:Nat,i≤2∧s78= .int .i64 (i:Int)∧Fr none w8 wr) (fun s78 _=>2 - (intOf s78).toNat)
   case atStart=>exact⟨0,by omega,rfl,Fr.refl _ _⟩
   case round=>
    obtain⟨i,hi,rfl,F⟩:=hrel;by_cases hi2:i<2
    ·have di:decide ((i:Int)<2)=true:=decide_eq_true (by omega);obtain⟨a,ix⟩:∃a:Ast,∀w,(Instr.index 65 (.agg #[.string (bL usd.code),.int .i64 usd.iss,.string (bL eur.code),.int .i64 eur.iss]) (.int .i64 (i:Int))).run Tryz.prog w= .ok (.agg #[.string (bL a.code),.int .i64 a.iss]) w:=by
      rcases(by omega:i=0∨i=1) with rfl|rfl
      ·exact⟨usd,fun _=>by kernel_rfl⟩
      exact⟨eur,fun _=>by kernel_rfl⟩
     go_upto_region 13 with(fail)
     clear ix;generalize hW:wr.alloc _=wa;have F1:Fr none wr wa:=hW▸(Fr.refl none wr).alloc _;have ba:dK wa wr.heap.size a:=by rw[←hW];exact aD _ _
     have hal:wr.heap.size<wa.heap.size:=aC ba;clear hW;have FA8:=F.pure F1;generalize wr.heap.size=ab at*
     have HFA:=sH FA8;have HBA:=sH ba;clear F F1 FA8 ba;go_wp2_with fail;go_loopw [12,83] (fun s12 s83 wr=>∃(f:Bool) (j:Nat),j≤l.length∧s12= .bool f∧s83= .int .i64 (j:Int)∧Hid (f=false→∀y ∈ l.take j,Qt a y.src∧∀x ∈ y.ops,Qt a x.o.to_)∧Fr none wa wr) (fun _ s83 _=>l.length - (intOf s83).toNat)
     case atStart=>exact⟨false,0,Nat.zero_le _,rfl,rfl,(fun _ y hy=>by simp at hy),Fr.refl _ _⟩
     case round=>
      obtain⟨f,j,hj,rfl,rfl,HJ,F⟩:=hrel;by_cases hjl:j<l.length
      ·obtain⟨b2,off2,rfl,hb2,_,hxx⟩:=HC.out (by omega);obtain⟨d0,d1,d2,d3⟩:=hxx j hjl;have F4r:=(HF4.out.pure HFA.out).pure F;have d0:=F4r.keep d0;have d1:=F4r.keep d1;have d2:=F4r.keep d2;have d3:=F4r.keep d3;have HTJ:=sH (HSL.out.2 _ (List.getElem_mem hjl));have HJN:Hid (∀f':Bool,(f'=false→f=false∧Qt a l[j].src∧∀x ∈ l[j].ops,Qt a x.o.to_)→f'=false→∀y ∈ l.take (j+1),Qt a y.src∧∀x ∈ y.ops,Qt a x.o.to_):=fun f' h hf y hy=>by
        obtain⟨h1,h2⟩:=h hf;rw[List.take_succ_eq_append_getElem hjl] at hy;rcases List.mem_append.1 hy with hy|hy
        ·exact HJ.out h1 y hy
        rw[List.mem_singleton] at hy;subst hy;exact h2
       have HOL:=sH (HOP.out _ (List.getElem_mem hjl));have hj4:j<4:=Nat.lt_of_lt_of_le hjl HL4.out;clear hxx;generalize l[j]=y at*
       obtain⟨ts,tq,tf,ops,Ay,cy⟩:=y;have HOL:Hid (ops.length≤4):=HOL.out;unfold TxX.v at d3;dsimp only at d0 d1 d2 d3;obtain⟨Ao2,co2,hov, -, -,hcell⟩:=oS HTJ.out.1;unfold TxX.v at hov;dsimp only at hov hcell;injection hov with ov1 ov2 ov3
       subst ov1 ov3;clear ov2;have HCO:=sH hcell;clear hcell;go_upto_region 17 with(fail)
       generalize hWb:wr.alloc _=wb;have Fb:Fr none wr wb:=hWb▸(Fr.refl none wr).alloc _;have htb:TxB wb wr.heap.size ⟨ts,tq,tf,ops,Ay,cy⟩:=by rw[←hWb];exact aD _ _
       clear hWb d0 d1 d2 d3;have F:=F.pure Fb;clear Fb;obtain⟨a0,a1⟩:=(HBA.out.fr F).cells;obtain⟨t0,t1,t2,t3⟩:=bD htb;dsimp only at t0 t1 t2 t3;go_cut [12] (fun s12 W=>∃f':Bool,s12= .bool f'∧(f'=false→f=false∧Qt a ts)∧W=wb)
       case first=>
        cases f with
        |true=>
         go_wp2_with fail;go_meet
         exact⟨true,rfl,by simp,rfl⟩
        |false=>
         go_wp2_with fail;go_meet
         exact⟨_,rfl,fun h=>by simpa using Dz h,rfl⟩
       case rest=>
       obtain⟨f1,rfl,hf1,rfl⟩:=hcut;have HF1:=sH hf1;clear hf1;have F4b:=(HF4.out.pure HFA.out).pure F;have HF4b:=sH F4b;clear F4b;go_wp2_with fail;clear a0 a1 t0 t1 t2 t3 htb;go_loopw [12,98] (fun s12 s98 wr=>∃(g:Bool) (m:Nat),m≤ops.length∧s12= .bool g∧s98= .int .i64 (m:Int)∧Hid (g=false→f1=false∧∀x ∈ ops.take m,Qt a x.o.to_)∧Fr none wc wr) (fun _ s98 _=>ops.length - (intOf s98).toNat)
       case atStart=>exact⟨f1,0,Nat.zero_le _,rfl,rfl,(fun h=>⟨h,fun x hx=>by simp at hx⟩),Fr.refl _ _⟩
       case round=>
        obtain⟨g,m,hm,rfl,rfl,HMG,Fm⟩:=hrel;by_cases hml:m<ops.length
        ·have hm4:m<4:=Nat.lt_of_lt_of_le hml HOL.out;obtain⟨b3,off3,rfl,hb3,_,hyy⟩:=HCO.out (by omega);have hxx:=hyy m hml;have HGN:Hid (∀g':Bool,(g'=false→g=false∧Qt a ops[m].o.to_)→g'=false→f1=false∧∀x ∈ ops.take (m+1),Qt a x.o.to_):=fun g' h hg=>by
          obtain⟨h1,h2⟩:=h hg;refine⟨(HMG.out h1).1,fun x hx=>?_⟩;rw[List.take_succ_eq_append_getElem hml] at hx;rcases List.mem_append.1 hx with hx|hx
          ·exact(HMG.out h1).2 x hx
          rw[List.mem_singleton] at hx;subst hx;exact h2
         obtain⟨x,hx⟩:∃x,x=ops[m]:=⟨_,rfl⟩;rw[←hx] at hxx HGN;clear hx hyy;have FFj:=HF4b.out.pure Fm;have c0:World.cell? wr ⟨b3,off3+m*12,none⟩=some (.int .i64 x.o.kind):=FFj.keep (hxx 0 _ rfl);have c1:World.cell? wr ⟨b3,off3+m*12+1,none⟩=some (.int .i64 x.o.to_):=FFj.keep (hxx 1 _ rfl);have c2:World.cell? wr ⟨b3,off3+m*12+2,none⟩=some (.int .i64 x.o.amt):=FFj.keep (hxx 2 _ rfl);have c3:World.cell? wr ⟨b3,off3+m*12+3,none⟩=some (.int .i64 x.o.lim):=FFj.keep (hxx 3 _ rfl);have c4:World.cell? wr ⟨b3,off3+m*12+4,none⟩=some (.string (bL x.o.ast.code)):=FFj.keep (hxx 4 _ rfl);have c5:World.cell? wr ⟨b3,off3+m*12+5,none⟩=some (.int .i64 x.o.ast.iss):=FFj.keep (hxx 5 _ rfl);have c6:World.cell? wr ⟨b3,off3+m*12+6,none⟩=some (.string (bL x.o.oth.code)):=FFj.keep (hxx 6 _ rfl);have c7:World.cell? wr ⟨b3,off3+m*12+7,none⟩=some (.int .i64 x.o.oth.iss):=FFj.keep (hxx 7 _ rfl);have c8:World.cell? wr ⟨b3,off3+m*12+8,none⟩=some (.int .i64 x.o.num):=FFj.keep (hxx 8 _ rfl);have c9:World.cell? wr ⟨b3,off3+m*12+9,none⟩=some (.int .i64 x.o.den):=FFj.keep (hxx 9 _ rfl);have c10:World.cell? wr ⟨b3,off3+m*12+10,none⟩=some (.int .i64 x.o.id):=FFj.keep (hxx 10 _ rfl);have c11:World.cell? wr ⟨b3,off3+m*12+11,none⟩=some x.v:=FFj.keep (hxx 11 _ rfl);clear hxx FFj;unfold OpX.v at c11;go_upto_region 21 with(fail)
         generalize hWx:wr.alloc _=wx;have Fx:Fr none wr wx:=hWx▸(Fr.refl none wr).alloc _;have hob:OpB wx wr.heap.size x.o x.v:=by rw[←hWx];exact aD _ _
         clear hWx c0 c1 c2 c3 c4 c5 c6 c7 c8 c9 c10 c11;have Fm:=Fm.pure Fx;clear Fx;obtain⟨a0,a1⟩:=(HBA.out.fr (F.pure Fm)).cells;obtain⟨o0,o1,o2,o3,o4,o5,o6,o7,o8,o9,o10,o11⟩:=hob.cells;cases g with
         |true=>
          have HN9:=sH (HGN.out true (by simp));go_wp2_with fail;go_roundw
          case rel=>exact⟨true,m+1,hml,rfl,by go_num,HN9,Fm⟩
          case measure=>simp[intOf]<;>omega
         |false=>
          have HN9:=sH (HGN.out (x.o.to_ == a.iss) (fun h=>⟨rfl,Dz h⟩));go_wp2_with fail;go_roundw
          case rel=>exact⟨_,m+1,hml,rfl,by go_num,HN9,Fm⟩
          case measure=>simp[intOf]<;>omega
        obtain rfl:m=ops.length:=by omega
        have HN9:=sH (HJN.out g (fun h=>by
         obtain⟨h1,h2⟩:=HMG.out h;rw[List.take_length] at h2;obtain⟨h3,h4⟩:=HF1.out h1;exact⟨h3,h4,h2⟩))
        go_wp2_with fail;go_roundw
        case rel=>exact⟨g,j+1,hjl,rfl,by go_num,HN9,F.pure Fm⟩
        case measure=>simp[intOf]<;>omega
      obtain rfl:j=l.length:=by omega
      have HJ9:Hid (f=false→∀y ∈ l,Qt a y.src∧∀x ∈ y.ops,Qt a x.o.to_):=fun h=>by
       have:=HJ.out h
       rwa [List.take_length] at this
      clear HJ;have F8:=HFA.out.pure F;have HF8:=sH F8;obtain⟨A8,c8,e8, -, -,hof⟩:=bA HHS.out.2.2.1;injection e8 with e81 e82 e83
      subst e81 e83;clear e82;have HOF:=sH hof;have h40:H.offers.length≤40:=(aS.1 HCH.out).2.1;clear hof;have hgb:=HGB.out.fr F8;clear F8;obtain⟨k0,k1,k2,k3,k4,k5,k6⟩:=hgb.cells;go_wp2_with fail;clear k0 k1 k2 k3 k4 k5 k6;clear hgb;go_loopw [12,115] (fun s12 s115 wq=>∃(g:Bool) (m:Nat),m≤H.offers.length∧s12= .bool g∧s115= .int .i64 (m:Int)∧Hid (g=false→f=false∧∀o ∈ H.offers.take m,Qt a o.sel)∧Fr none wr wq) (fun _ s115 _=>H.offers.length - (intOf s115).toNat)
      case atStart=>exact⟨f,0,Nat.zero_le _,rfl,rfl,(fun h=>⟨h,fun x hx=>by simp at hx⟩),Fr.refl _ _⟩
      case round=>
       obtain⟨g,m,hm,rfl,rfl,HMG,Fm⟩:=hrel;by_cases hml:m<H.offers.length
       ·obtain⟨b3,off3,rfl,hb3,_,hyy⟩:=HOF.out (by omega);obtain⟨o0,o1,o2,o3,o4,o5,o6,o7,o8⟩:=hyy m hml;have FFj:=HF8.out.pure Fm;have o0:=FFj.keep o0;have o1:=FFj.keep o1;have o2:=FFj.keep o2;have o3:=FFj.keep o3;have o4:=FFj.keep o4;have o5:=FFj.keep o5;have o6:=FFj.keep o6;have o7:=FFj.keep o7;have o8:=FFj.keep o8;have HGN:Hid (∀g':Bool,(g'=false→g=false∧Qt a H.offers[m].sel)→g'=false→f=false∧∀o ∈ H.offers.take (m+1),Qt a o.sel):=fun g' h hg=>by
         obtain⟨h1,h2⟩:=h hg;refine⟨(HMG.out h1).1,fun x hx=>?_⟩;rw[List.take_succ_eq_append_getElem hml] at hx;rcases List.mem_append.1 hx with hx|hx
         ·exact(HMG.out h1).2 x hx
         rw[List.mem_singleton] at hx;subst hx;exact h2
        clear hyy FFj;generalize H.offers[m]=x at*
        go_upto_region 27 with(fail)
        generalize hWx:wr.alloc _=wx;have Fx:Fr none wr wx:=hWx▸(Fr.refl none wr).alloc _;have hob:OfB wx wr.heap.size x:=by rw[←hWx];exact aD _ _
        clear hWx o0 o1 o2 o3 o4 o5 o6 o7 o8;have Fm:=Fm.pure Fx;clear Fx;obtain⟨a0,a1⟩:=(HBA.out.fr (F.pure Fm)).cells;obtain⟨o0,o1,o2,o3,o4,o5,o6,o7,o8⟩:=hob.cells;cases g with
        |true=>
         have HN9:=sH (HGN.out true (by simp));go_wp2_with fail;go_roundw
         case rel=>exact⟨true,m+1,hml,rfl,by go_num,HN9,Fm⟩
         case measure=>simp[intOf]<;>omega
        |false=>
         have HN9:=sH (HGN.out (x.sel == a.iss) (fun h=>⟨rfl,Dz h⟩));go_wp2_with fail;go_roundw
         case rel=>exact⟨_,m+1,hml,rfl,by go_num,HN9,Fm⟩
         case measure=>simp[intOf]<;>omega
       obtain rfl:m=H.offers.length:=by omega
       have HEQ:Hid (g=false→sup X a=sup H a):=fun h=>by
        obtain⟨h1,h2⟩:=HMG.out h;rw[List.take_length] at h2;exact HSP.out a (HJ9.out h1) h2
       have F9:=HF8.out.pure Fm;have hgb:=HGB.out.fr F9;have hyb:=HYB.out.fr F9;have hba:=HBA.out.fr (F.pure Fm);have HYR:=sH (HYS.out.nn.fr F9);have HHR:=sH (HHS.out.weak.fr F9);have HF9:=sH F9;clear F9 HMG HJ9;go_upto_region 29 with(fail)
       cases g with
       |true=>
        refine aL (fun W=>Fr none wr W) 11 142 [some 138,some 137,some 136,some 135,some 134,some 133,some 132,some 131,some 130,some 129,some 128] (by kernel_rfl) (by kernel_rfl) (by kernel_rfl) (Nat.le_refl _) ((Fr.refl _ _).drew) ?_;refine FxL.p [] [12] ?_;refine FxL.p [(0,0,128)] [] ?_;refine FxL.p [(0,1,129)] [] ?_;refine FxL.skip rfl 0 rfl (by simp only[aG];intro h;cases h) ?_;refine FxL.skip rfl 1 rfl (by simp only[aG];intro h;cases h) ?_;refine FxL.skip rfl 2 rfl (by simp only[aG];intro h;cases h) ?_;refine FxL.skip rfl 3 rfl (by simp only[aG];intro h;cases h) ?_;refine FxL.skip rfl 4 rfl (by simp only[aG];intro h;cases h) ?_;refine FxL.skip rfl 5 rfl (by simp only[aG];intro h;cases h) ?_;refine FxL.skip rfl 6 rfl (by simp only[aG];intro h;cases h) ?_;refine FxL.p [(7,2,130),(0,9,137)] [] ?_;refine FxL.done (fun W hW=>?_);simp only[bF];try simp only[sI]
        try simp only[sK]
        go_wp2_with fail;go_roundw
        case rel=>exact⟨i+1,by omega,by go_num,HF9.out.pure hW⟩
        case measure=>simp[intOf]<;>omega
       |false=>
        have HE9:=sH (HEQ.out rfl);refine aL (fun W=>Fr none wr W) 11 142 [some 138,some 137,some 136,some 135,some 134,some 133,some 132,some 131,some 130,some 129,some 128] (by kernel_rfl) (by kernel_rfl) (by kernel_rfl) (Nat.le_refl _) ((Fr.refl _ _).drew) ?_;refine FxL.p [] [12] ?_;refine FxL.p [(0,0,128)] [] ?_;refine FxL.p [(0,1,129)] [] ?_;have HF2:=sH (fun(w:World) (hS:(fun W=>Fr none wr W) w)=>And.intro ((hgb.fr hS).cells) (And.intro ((hyb.fr hS).cells) ((hba.fr hS).cells)));refine FxL.gq HF2.out 0 [] [7] ?_;refine FxL.gq HF2.out 1 [] [11] ?_;refine FxL.gcall (v:=?_) (f:=?_) (args:=?_) rfl 2 rfl rfl (fun ev w hS E=>?_) (fun w hS=>?_) ?_;rotate_left 3
        ·obtain⟨k0,k1,k2,k3,k4,k5,k6⟩:=(hgb.fr hS).cells;obtain⟨y0,y1,y2,y3,y4,y5,y6⟩:=(hyb.fr hS).cells;obtain⟨a0,a1⟩:=(hba.fr hS).cells;obtain⟨t131,t132,ec,ef,eg⟩:=E.get [(1,3,131),(0,4,132)] [] (by kernel_rfl);clear E;simp only[aG] at t131 t132;go_simp;first|(refine And.intro ?_ ?_<;>with_reducible rfl)|with_reducible rfl
        ·obtain⟨k0,k1,k2,k3,k4,k5,k6⟩:=(hgb.fr hS).cells;obtain⟨y0,y1,y2,y3,y4,y5,y6⟩:=(hyb.fr hS).cells;obtain⟨a0,a1⟩:=(hba.fr hS).cells;refine(mG X _ _ _ a w (HYR.out.fr hS) HXK.out).mono ?_;rintro e w2 ⟨rfl,F2⟩;refine⟨?_,hS.pure F2⟩;with_reducible rfl
        refine FxL.gq HF2.out 3 [] [4] ?_;refine FxL.gq HF2.out 4 [] [11] ?_;refine FxL.gcall (v:=?_) (f:=?_) (args:=?_) rfl 5 rfl rfl (fun ev w hS E=>?_) (fun w hS=>?_) ?_;rotate_left 3
        ·obtain⟨k0,k1,k2,k3,k4,k5,k6⟩:=(hgb.fr hS).cells;obtain⟨y0,y1,y2,y3,y4,y5,y6⟩:=(hyb.fr hS).cells;obtain⟨a0,a1⟩:=(hba.fr hS).cells;obtain⟨t134,t135,ec,ef,eg⟩:=E.get [(1,6,134),(0,7,135)] [] (by kernel_rfl);clear E;simp only[aG] at t134 t135;go_simp;first|(refine And.intro ?_ ?_<;>with_reducible rfl)|with_reducible rfl
        ·obtain⟨k0,k1,k2,k3,k4,k5,k6⟩:=(hgb.fr hS).cells;obtain⟨y0,y1,y2,y3,y4,y5,y6⟩:=(hyb.fr hS).cells;obtain⟨a0,a1⟩:=(hba.fr hS).cells;refine(mG H _ _ _ a w (HHR.out.fr hS) HCH.out).mono ?_;rintro e w2 ⟨rfl,F2⟩;refine⟨?_,hS.pure F2⟩;with_reducible rfl
        refine FxL.gpure (v:=?_) rfl 6 rfl rfl (fun ev w hS E=>?_) ?_;rotate_left
        ·obtain⟨t133,t136,ec,ef,eg⟩:=E.get [(3,5,133),(0,8,136)] [] (by kernel_rfl);clear E;simp only[aG] at t133 t136;rw[HE9.out] at t133;go_simp;try with_reducible rfl
        refine FxL.p [(7,2,130),(0,9,137)] [] ?_;refine FxL.done (fun W hW=>?_);simp only[bF];try simp only[sI]
        try simp only[sK]
        go_wp2_with fail;go_roundw
        case rel=>exact⟨i+1,by omega,by go_num,HF9.out.pure hW⟩
        case measure=>simp[intOf]<;>omega
    obtain rfl:i=2:=by omega
    have hgb:=HGB.out.fr F;have hyb:=HYB.out.fr F;have S6:=HS6.out.fr F;have FX:=HFX.out.pure F;have HYS:=sH (HYS.out.fr F);clear F;obtain⟨y0,y1,y2,y3,y4,y5,y6⟩:=hyb.cells;obtain⟨k0,k1,k2,k3,k4,k5,k6⟩:=hgb.cells;have z0:=aB hgb 0;have z1:=aB hgb 1;have z2:=aB hgb 2;have z3:=aB hgb 3;have z4:=aB hgb 4;have z5:=aB hgb 5;have z6:=aB hgb 6;have zl:=aC hgb;have hk2:k<3:=hk3;go_upto_region 5 with(fail)
    generalize hWf:((((((wr.setCell ⟨gb,0,none⟩ (.int .i64 X.num)).setCell ⟨gb,1,none⟩ (.slice Ya ya yac)).setCell ⟨gb,2,none⟩ (.slice Yl yl ylc)).setCell ⟨gb,3,none⟩ (.slice Yo yo yoc)).setCell ⟨gb,4,none⟩ (.int .i64 X.nid)).setCell ⟨gb,5,none⟩ (.int .i64 X.fees)).setCell ⟨gb,6,none⟩ (.int .u64 (X.link:Int))=wf;obtain⟨Ff,hgf⟩:Fr (some gb) wr wf∧LgB wf gb X (.slice Ya ya yac) (.slice Yl yl ylc) (.slice Yo yo yoc):=by rw[←hWf];exact aW hgb
    clear hWf k0 k1 k2 k3 k4 k5 k6 y0 y1 y2 y3 y4 y5 y6 z0 z1 z2 z3 z4 z5 z6 zl hgb hyb;have HYF:Hid (LgS wf (some sb) X (.slice Ya ya yac) (.slice Yl yl ylc) (.slice Yo yo yoc)):=HYS.out.fr Ff (fun k e=>by injection e with e;exact .inr e.symm) (some sb) (fun k e=>by injection e with e;exact .inl e.symm);have S9:=S6.frs Ff (fun b e=>by injection e with e;omega);have FX9:=FX.new Ff hwg;have HNX:Hid (0≤X.num∧X.num≤4+((k+1:Nat):Int)):=by have:=HNM.out;unfold Hid;rw[HXN.out];omega
    go_wp2_with fail;go_roundw
    case rel=>exact⟨k+1,X,Ya,ya,yac,Yl,yl,ylc,Yo,yo,yoc,by omega,by go_num,HXK,HNX,HXS,hgf,HYF,S9,FX9⟩
    case measure=>simp[intOf]<;>omega
  obtain rfl:k=3:=by omega
  go_wp2_with fail;refine(xN _ (HE.out.frs FX (by simp) (by simp)) (HM.out.frs FX (by simp)) (HT.out.fr FX) (Nat.lt_of_lt_of_le HMX.out FX.size)).mono ?_;rintro e w99 ⟨rfl,F99⟩;go_wp2;go_ret;exact⟨rfl,FX.pure F99⟩
end Go.Proofs.YthaggndnfamhjaaGreatDoor
