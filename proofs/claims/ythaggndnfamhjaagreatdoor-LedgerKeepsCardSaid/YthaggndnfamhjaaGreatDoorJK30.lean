/- Texts, joined. -/
import Derived.Test.YthaggndnfamhjaaGreatDoorProg
import Derived.Test.YthaggndnfamhjaaGreatDoorJK27
import Derived.Test.YthaggndnfamhjaaGreatDoorJK5
import Derived.Test.YthaggndnfamhjaaGreatDoorJK16
import Derived.Lib.AppendZerosOnto
import Derived.Lib.Overlaps
import Derived.Shelf.Spec.SlicesInsert
import Derived.Test.YthaggndnfamhjaaGreatDoorJA

set_option linter.unusedSimpArgs false
set_option linter.unusedVariables false
set_option maxRecDepth 100000
set_option maxHeartbeats 16000000
namespace Go.Proofs.YthaggndnfamhjaaGreatDoor
open Go.RowKit
theorem kF{i:Nat}(h:i≤1000):IntKind.i64.wrap ((i:Int)+1)=(i:Int)+1:=by rw[IntKind.wrap_i64];omega
theorem tT{i:Nat}(h:i≤1000):wrap64 ((i:Int)+1)=(i:Int)+1:=by unfold wrap64;omega
theorem AH(l:List aQ)(x:aQ)(A:Option Addr)(c i vb base:Nat)(w:World)(hi:i≤l.length)(hl:l.length≤1000)(hb:base≤w.heap.size)(own:w.ownsRow base 59 3 (.slice A l.length c) l.length (flR aP l))(hv:w.heap[vb]?=some (.cells (aP.enc x).toArray 59 (0,0)))(hvb:(Value.slice A l.length c).ownBlock≠some vb):
  Calls Tryz.prog 144 #[.slice A l.length c,.int .i64 (i:Int),.slice (some ⟨vb,0,none⟩) 1 1] w fun e w'=>∃A' c',e= .returned (.slice A' (l.length+1) c')∧w'.ownsRow base 59 3 (.slice A' (l.length+1) c') (l.length+1) (flR aP (l.take i++x::l.drop i))∧Fr (Value.slice A l.length c).ownBlock w w':=by
 obtain⟨L,hL⟩:∃L,L=flR aP (l.take i++x::l.drop i):=⟨_,rfl⟩;have HX:=sH hL;rw[←hL];clear hL;have HO:=sH own;have HV:=sH hv;have HB:=sH hvb;obtain⟨hnc,hcm⟩:=jA own;have q2:(i:Int)≤(l.length:Int):=by omega
 have q3:(l.length:Int)≤(c:Int):=by omega
 have q4:(i:Int)≤(c:Int):=by omega
 have hvc:∀W,Fr none w W→∀j u,(aP.enc x)[j]?=some u→W.cell? ((⟨vb,0,none⟩:Addr).add j)=some u:=fun W F j u hu=>by
  rw[Addr.add_lit,Nat.zero_add];exact F.keep (by rw[aA HV.out];simpa using hu)
 have HVC:=sH hvc;clear hvc;by_cases he:i=l.length
 ·subst he;clear own hv hvb;have q1:((l.length:Int) == (l.length:Int))=true:=by simp
  have HX:Hid (L=flR aP l++aP.enc x):=by unfold Hid;rw[HX.out,List.take_length,List.drop_length,cV]
  have hsl:SlD w (fun _=>True) 3 (.slice (some ⟨vb,0,none⟩) 1 1) (aP.enc x):=⟨_,1,1,rfl,by rw[aP.len,Nat.one_mul];rfl,Nat.le_refl _,by unfold maxLen;omega,fun _=>⟨vb,0,rfl,trivial,fun j u hu=>by rw[Nat.zero_add,aA HV.out];simpa using hu⟩⟩;have HSL:=sH hsl;clear hsl;cases A with
  |none=>
   have h0:l.length=0:=by
    rcases HO.out.2 with⟨_,h⟩|⟨g,cap,cur,e,_⟩
    ·exact h
    cases e
   obtain rfl:=List.eq_nil_of_length_eq_zero h0;clear h0;rw[show([]:List aQ).length=0 from rfl] at*
   go_enter Tryz.func144,Tryz.ntmps144;go_wp2_with (at_builtin;refine fB Es rfl _ _ rfl base none 0 c (flR aP []) rfl HO.out (some ⟨vb,0,none⟩) 1 1 (aP.enc x) rfl HSL.out (aP.one x) (by omega) (by unfold maxLen;omega) hb ?_;intro A' c' w' own' F' bl');go_ret;exact⟨A',c',rfl,by rw[HX.out];exact own',F'⟩
  |some a=>
   go_enter Tryz.func144,Tryz.ntmps144;go_wp2_with (at_builtin;refine fB Es rfl _ _ rfl base (some a) l.length c (flR aP l) rfl HO.out (some ⟨vb,0,none⟩) 1 1 (aP.enc x) rfl HSL.out (aP.one x) (by omega) (by unfold maxLen;omega) hb ?_;intro A' c' w' own' F' bl');all_goals(go_ret;exact⟨A',c',rfl,by rw[HX.out];exact own',F'⟩)
 have hin:i<l.length:=by omega
 obtain⟨g,rfl⟩:=dZ own (by omega);obtain⟨hz,hcs,hgw,hbg,hq1,hq2⟩:=aY own;clear hq1 hq2;have HZ:=sH hz;have HCS:=sH hcs;have hvg:vb≠g:=fun e=>hvb (by rw[e];rfl);obtain⟨ti,z,hu,hti,hzz,hsize,hby,hzs,_⟩:=Es;have hsz:(Tryz.prog.info? 59).map (·.size)=some 3:=by rw[hti];simp[hsize]
 clear hz hcs hv hvb;have hi3:i≤1000:=by omega
 have q1:((i:Int) == (l.length:Int))=false:=by rw[beq_eq_false_iff_ne];omega
 have q5:((i:Int)+1).toNat=i+1:=by omega
 have q6:(0:Int)≤(i:Int)+1:=by omega
 have hlen:=dQ aP l;have hlen:(flR aP l).length=l.length*3:=hlen;have hsplit:flR aP (l.take i++x::l.drop i)=(flR aP l).take (i*3)++aP.enc x++(flR aP l).drop (i*3):=by
  have h1:(flR aP l).take (i*3)=flR aP (l.take i):=gH aP l i;have h2:flR aP l=flR aP (l.take i)++flR aP (l.drop i):=by rw[←fW,List.take_append_drop]
  have h3:(flR aP l).drop (i*3)=flR aP (l.drop i):=by
   have h4:=List.take_append_drop (i*3) (flR aP l);rw[h1] at h4;exact List.append_cancel_left (h4.trans h2)
  rw[h1,h3,fW,gG,List.append_assoc]
 have HX:Hid (L=(flR aP l).take (i*3)++aP.enc x++(flR aP l).drop (i*3)):=HX.out.trans hsplit;clear hsplit own;by_cases hroom:l.length+1≤c
 ·obtain⟨ys,hys,own1⟩:=sB HO.out hroom;have HO1:=sH own1;clear own1;have q7:(l.length:Int)+1≤(c:Int):=by omega
  have q8:¬(c=i):=by omega
  have q9:¬(c=i+1):=by omega
  have q10:(i:Int)+1≤(l.length:Int)+1:=by omega
  have q11:(i:Int)≤(l.length:Int)+1:=by omega
  have q13:IntKind.i64.wrap ((i:Int)+1)=(i:Int)+1:=kF hi3;have hov:∀lb cb,(callFunc 173 #[.slice (some ⟨vb,0,none⟩) 1 1,.slice (some ⟨g,(i+1)*3,none⟩) lb cb]).run Tryz.prog w= .ok (.value (.bool false)) w:=fun lb cb=>by
   rw[run_callFunc_extern Tryz.func173 (by kernel_rfl) (by kernel_rfl) (by kernel_rfl) (e:=Extern.SlicesOverlaps.overlaps #[25,25] #[4]) (by kernel_rfl)];rw[Lib.run_overlaps_apart w 25 4 59 hu 3 (fun w=>by simp[sizeOf,typeInfo,hti,hsize]) ⟨vb,0,none⟩ ⟨g,(i+1)*3,none⟩ 1 1 lb cb hvg 59 59 3 (c*3) (by unfold World.shape?;rw[HV.out];rfl) (sA HO.out) (by omega) (aB HV.out 0) (aB HV.out 3)];rfl
  clear HB;go_enter Tryz.func144,Tryz.ntmps144;go_upto_region 15 with(simp only[hov])
  refine aL (fun W=>Fr none w W) 8 95 [some 76,some 75,some 74,some 73,some 72,some 71,some 70,some 69] (by kernel_rfl) (by kernel_rfl) (by kernel_rfl) (Nat.le_refl _) ((Fr.refl _ _).drew) ?_;refine FxL.p [] [0] ?_;refine FxL.p [] [1] ?_;refine FxL.p [] [7] ?_;refine FxL.p [(1,1,70),(0,2,71)] [] ?_;refine FxL.p [(3,0,69),(0,3,72)] [] ?_;refine FxL.p [] [0] ?_;refine FxL.p [] [1] ?_;refine FxL.p [(1,5,74),(0,6,75)] [] ?_;refine FxL.done (fun W hW=>?_);simp only[bF];try simp only[sI]
  try simp only[sK]
  have ownW:=aR HO1.out hW (by simp);have hcp1:∀ty dl dc sl sc,Nat.min sl dl=l.length - i→(Builtin.copy_ #[25,25] ty #[.slice (some ⟨g,(i+1)*3,none⟩) dl dc,.slice (some ⟨g,i*3,none⟩) sl sc]).run Tryz.prog W= .ok (goInt (Nat.min sl dl)) (W.setCells g ((i+1)*3) ((flR aP l).drop (i*3))):=fun ty dl dc sl sc hmin=>
   eE W _ _ ty 59 3 g _ dl dc _ sl sc _ hu hsz (by rw[hmin,List.length_drop,hlen];omega) (fun j u hu=>by rw[Addr.add_lit];rw[List.getElem?_drop] at hu;exact hW.keep (HCS.out _ _ hu)) (fun j hj=>dF ownW _ (by rw[List.length_drop,hlen] at hj;omega)) (fun j _=>(aY ownW).1 _) (fun u hu=>dA aP l u (List.mem_of_mem_drop hu))
  have own2:=yY (i:=i) (v:=[]) ownW hlen hys (by omega);have F2:Fr (some g) W (W.setCells g ((i+1)*3) ((flR aP l).drop (i*3))):=Fr.sets _ _ _;refine wpList_copy_runI _ rfl _ _ _ _ rfl _ _ rfl rfl (hcp1 _ _ _ _ _ (by simp only[Nat.min_def];split<;>omega)) ?_;obtain⟨W1,hW1⟩:∃W1,W1=W.setCells g ((i+1)*3) ((flR aP l).drop (i*3)):=⟨_,rfl⟩;rw[←hW1] at own2 F2 ⊢;clear hW1 hcp1 ownW;have hcp2:∀ty dl dc,0<dl→(Builtin.copy_ #[25,25] ty #[.slice (some ⟨g,i*3,none⟩) dl dc,.slice (some ⟨vb,0,none⟩) 1 1]).run Tryz.prog W1= .ok (goInt (Nat.min 1 dl)) (W1.setCells g (i*3) (aP.enc x)):=fun ty dl dc hd=>by
   have hm:Nat.min 1 dl=1:=by simp only[Nat.min_def];split<;>omega
   have hn:(aP.enc x).length=Nat.min 1 dl*3:=by rw[aP.len,hm,Nat.one_mul];rfl
   exact eE W1 _ _ ty 59 3 g _ dl dc _ 1 1 (aP.enc x) hu hsz hn (fun j u hu=>F2.keep (HVC.out W hW j u hu) (by intro e;rw[Addr.add_lit] at e;injection e with e;exact hvg e)) (fun j hj=>dF own2 _ (by rw[aP.len] at hj;have hj:j<3:=hj;omega)) (fun j _=>(aY own2).1 _) (aP.one x)
  have own3:=gZ (vs:=aP.enc x) (i*3) own2 (by rw[List.length_take,List.length_append,hlen];omega) (by rw[List.length_take,List.length_drop,List.length_append,hlen,hys,aP.len];show min 3 _=3;omega);rw[List.take_append_of_le_length (by rw[hlen];omega),←HX.out] at own3;have F3:Fr (some g) W1 (W1.setCells g (i*3) (aP.enc x)):=Fr.sets _ _ _;have HO3:=sH own3;have hd0:0<l.length+1 - i:=by omega
  clear own2 own3;go_wp2_with (at_builtin;refine wpList_copy_runI _ rfl _ _ _ _ rfl _ _ rfl rfl (hcp2 _ _ _ hd0) ?_);go_ret;exact⟨some ⟨g,0,none⟩,c,rfl,HO3.out,(hW.mono.same F2).same F3⟩
 obtain rfl:c=l.length:=by omega
 have q7:(l.length:Int)<(l.length:Int)+1:=by omega
 have q8:¬(l.length=i):=by omega
 have q10:(i:Int)+1≤(l.length:Int)+1:=by omega
 have q11:(i:Int)≤(l.length:Int)+1:=by omega
 have q13:IntKind.i64.wrap ((i:Int)+1)=(i:Int)+1:=kF hi3;have hkk:(l.length:Int)+1 - (i:Int)=((l.length+1 - i:Nat):Int):=by omega
 have hik:i+(l.length+1 - i)=l.length+1:=by omega
 have hold:(Builtin.firstCells ti.size i (.slice (some ⟨g,0,none⟩) i l.length)).run Tryz.prog w.drew= .ok ((flR aP l).take (i*3)).toArray w.drew:=by
  rw[hsize];exact run_firstCells_some w.drew 3 i ⟨g,0,none⟩ i l.length _ (by rw[List.length_take,hlen];omega) (fun j v hj=>by
   rw[Addr.add_lit,Nat.zero_add];rw[List.getElem?_take] at hj;split at hj
   ·exact HCS.out _ _ hj
   cases hj)
 obtain⟨G,hG⟩:∃G,G=grownCap w (l.length+1) l.length 59:=⟨_,rfl⟩;have hGn:l.length+1≤G:=by rw[hG];exact grownCap_ge w _ _ _
 have hGm:G≤maxLen:=by rw[hG];exact grownCap_le_maxLen w _ _ _ (by unfold maxLen;omega)
 obtain⟨Z,hZ⟩:∃Z,Z=(Builtin.zeroCells z.cells (l.length+1 - i)).toList:=⟨_,rfl⟩;have hZl:Z.length=(l.length+1 - i)*3:=by rw[hZ];simp[Builtin.zeroCells,hzs]
 obtain⟨Y,hY⟩:∃Y,Y=Builtin.zeroCells z.cells (G - (l.length+1)):=⟨_,rfl⟩;have hYl:Y.size=(G - (l.length+1))*3:=by rw[hY];simp[Builtin.zeroCells,hzs]
 have hrz:∀ty,(Builtin.append_ #[25,3] ty #[.slice (some ⟨g,0,none⟩) i l.length,.int .i64 ((l.length+1 - i:Nat):Int)]).run Tryz.prog w=
   .ok (.slice (some ⟨w.heap.size,0,none⟩) (l.length+1) G) (w.drew.alloc (.cells (((flR aP l).take (i*3)).toArray++Z.toArray++Y) 59)):=fun ty=>by
  have h:=Lib.run_append_grow_zeros w 25 3 ty 59 ti z .i64 .i64 hu (by kernel_rfl) hti hzz (some ⟨g,0,none⟩) i l.length _ hold (l.length+1 - i) (by omega) (by omega) (by omega) (by omega) (by rw[hby];omega) (by rw[hby,hik];exact growslice_fits (by omega) (by omega));rw[hik,←hG,←hY] at h;rw[hZ];exact h
 have hYs:(((flR aP l).take (i*3)).toArray++Z.toArray++Y).size=G*3:=by
  simp only[Array.size_append,List.size_toArray,List.length_take,hlen,hZl,hYl];omega
 have hYt:(((flR aP l).take (i*3)).toArray++Z.toArray++Y).toList.take ((l.length+1)*3)=(flR aP l).take (i*3)++Z:=by
  simp only[Array.toList_append];rw[List.take_left' (by simp only[List.length_append,List.length_take,hlen,hZl];omega)]
 obtain⟨W1,hW1⟩:∃W1,W1=w.drew.alloc (.cells (((flR aP l).take (i*3)).toArray++Z.toArray++Y) 59):=⟨_,rfl⟩;rw[←hW1] at hrz;have F1:Fr none w W1:=hW1▸(Fr.refl none w).drew.alloc _;have own1:W1.ownsRow base 59 3 (.slice (some ⟨w.heap.size,0,none⟩) (l.length+1) G) (l.length+1) ((flR aP l).take (i*3)++Z):=⟨by rw[List.length_append,List.length_take,hlen,hZl];omega,.inr ⟨w.heap.size,G,_,rfl,hb,by rw[hW1];exact heap_alloc_new w.drew _,hGn,hGm,hYs,hYt⟩⟩;have hvw:vb<w.heap.size:=aC HV.out;obtain⟨B,hB⟩:∃B,B=w.heap.size:=⟨_,rfl⟩;rw[←hB] at own1 hrz hvw;have hgB:g<B:=by omega
 have HBe:=sH hB;clear hW1 hYs hYt hY hYl hZ hold hG hB;unfold maxLen at hGm;have own2:=gZ (vs:=aP.enc x) (i*3) (P:=(flR aP l).take (i*3)) (Q:=Z.take 3) (R:=Z.drop 3) (by rw[List.append_assoc,List.take_append_drop];exact own1) (by rw[List.length_take,hlen];omega) (by rw[List.length_take,hZl,aP.len];show min 3 _=3;omega);have hcpA:∀ty dl dc,0<dl→(Builtin.copy_ #[25,25] ty #[.slice (some ⟨B,i*3,none⟩) dl dc,.slice (some ⟨vb,0,none⟩) 1 1]).run Tryz.prog W1= .ok (goInt (Nat.min 1 dl)) (W1.setCells B (i*3) (aP.enc x)):=fun ty dl dc hd=>by
  have hm:Nat.min 1 dl=1:=by simp only[Nat.min_def];split<;>omega
  have hn:(aP.enc x).length=Nat.min 1 dl*3:=by rw[aP.len,hm,Nat.one_mul];rfl
  exact eE W1 _ _ ty 59 3 B _ dl dc _ 1 1 (aP.enc x) hu hsz hn (fun j u hu=>HVC.out W1 F1 j u hu) (fun j hj=>dF own1 _ (by rw[aP.len] at hj;have hj:j<3:=hj;omega)) (fun j _=>(aY own1).1 _) (aP.one x)
 have F2:Fr (some B) W1 (W1.setCells B (i*3) (aP.enc x)):=Fr.sets _ _ _;have hd0:0<l.length+1 - i:=by omega
 have q14:¬(G=i):=by omega
 have q15:¬(G=i+1):=by omega
 have q16:(l.length:Int)+1≤(G:Int):=by omega
 obtain⟨W2,hW2⟩:∃W2,W2=W1.setCells B (i*3) (aP.enc x):=⟨_,rfl⟩;rw[←hW2] at own2 F2 hcpA;clear own1 hW2 HB;have HO2:=sH own2;clear own2;go_enter Tryz.func144,Tryz.ntmps144;go_upto_region 11 with(at_builtin;first|(refine Lib.wpList_append_run _ rfl _ _ _ _ rfl _ _ rfl rfl _ _ (hrz _) ?_)|(refine wpList_copy_runI _ rfl _ _ _ _ rfl _ _ rfl rfl (hcpA _ _ _ hd0) ?_))
 refine aL (fun W=>Fr none W2 W) 8 95 [some 53,some 52,some 51,some 50,some 49,some 48,some 47,some 46] (by kernel_rfl) (by kernel_rfl) (by kernel_rfl) (Nat.le_refl _) ((Fr.refl _ _).drew) ?_;refine FxL.p [] [9] ?_;refine FxL.p [] [1] ?_;refine FxL.p [] [7] ?_;refine FxL.p [(1,1,47),(0,2,48)] [] ?_;refine FxL.p [(3,0,46),(0,3,49)] [] ?_;refine FxL.p [] [0] ?_;refine FxL.p [] [1] ?_;refine FxL.p [(1,5,51),(0,6,52)] [] ?_;refine FxL.done (fun W hW=>?_);simp only[bF];try simp only[sI]
 try simp only[sK]
 have ownW:=aR HO2.out hW (by simp);have hcpB:∀ty dl dc sc,l.length - i≤dl→(Builtin.copy_ #[25,25] ty #[.slice (some ⟨B,(i+1)*3,none⟩) dl dc,.slice (some ⟨g,i*3,none⟩) (l.length - i) sc]).run Tryz.prog W= .ok (goInt (Nat.min (l.length - i) dl)) (W.setCells B ((i+1)*3) ((flR aP l).drop (i*3))):=fun ty dl dc sc hd=>by
  have hm:Nat.min (l.length - i) dl=l.length - i:=by simp only[Nat.min_def];split<;>omega
  have hn:((flR aP l).drop (i*3)).length=Nat.min (l.length - i) dl*3:=by rw[hm,List.length_drop,hlen];omega
  exact eE W _ _ ty 59 3 B _ dl dc _ _ sc _ hu hsz hn (fun j u hu=>by rw[Addr.add_lit];rw[List.getElem?_drop] at hu;exact hW.keep (F2.keep (F1.keep (HCS.out _ _ hu)) (by intro e;injection e with e;have e:g=B:=e;omega)) (by simp)) (fun j hj=>dF ownW _ (by rw[List.length_drop,hlen] at hj;omega)) (fun j _=>(aY ownW).1 _) (fun u hu=>dA aP l u (List.mem_of_mem_drop hu))
 have own3:=gZ (vs:=(flR aP l).drop (i*3)) ((i+1)*3) (P:=(flR aP l).take (i*3)++aP.enc x) (Q:=Z.drop 3) (R:=[]) (by rw[List.append_nil];exact ownW) (by rw[List.length_append,List.length_take,hlen,aP.len];show _=min (i*3) _+3;omega) (by rw[List.length_drop,List.length_drop,hZl,hlen];omega);rw[List.append_nil,←HX.out] at own3;have F3:Fr (some B) W (W.setCells B ((i+1)*3) ((flR aP l).drop (i*3))):=Fr.sets _ _ _;have HO3:=sH own3;have hd1:l.length - i≤l.length - i:=Nat.le_refl _;refine wpList_copy_runI _ rfl _ _ _ _ rfl _ _ rfl rfl (hcpB _ _ _ _ (by omega)) ?_;clear own3 ownW hcpB hcpA hrz;go_wp2;go_ret;have hBw:=HBe.out;exact⟨some ⟨B,0,none⟩,G,rfl,HO3.out,((F1.new F2 (by omega)).new (hW.mono.same F3) (by omega)).mono⟩
theorem sC(l:List Ln)(x:Ln)(A:Option Addr)(c i vb base:Nat)(w:World)(hi:i≤l.length)(hl:l.length≤1000)(hb:base≤w.heap.size)(own:w.ownsRow base 74 5 (.slice A l.length c) l.length (flR lnR l))(hv:w.heap[vb]?=some (.cells (lnR.enc x).toArray 74 (0,0)))(hvb:(Value.slice A l.length c).ownBlock≠some vb):
  Calls Tryz.prog 150 #[.slice A l.length c,.int .i64 (i:Int),.slice (some ⟨vb,0,none⟩) 1 1] w fun e w'=>∃A' c',e= .returned (.slice A' (l.length+1) c')∧w'.ownsRow base 74 5 (.slice A' (l.length+1) c') (l.length+1) (flR lnR (l.take i++x::l.drop i))∧Fr (Value.slice A l.length c).ownBlock w w':=by
 obtain⟨L,hL⟩:∃L,L=flR lnR (l.take i++x::l.drop i):=⟨_,rfl⟩;have HX:=sH hL;rw[←hL];clear hL;have HO:=sH own;have HV:=sH hv;have HB:=sH hvb;obtain⟨hnc,hcm⟩:=jA own;have q2:(i:Int)≤(l.length:Int):=by omega
 have q3:(l.length:Int)≤(c:Int):=by omega
 have q4:(i:Int)≤(c:Int):=by omega
 have hvc:∀W,Fr none w W→∀j u,(lnR.enc x)[j]?=some u→W.cell? ((⟨vb,0,none⟩:Addr).add j)=some u:=fun W F j u hu=>by
  rw[Addr.add_lit,Nat.zero_add];exact F.keep (by rw[aA HV.out];simpa using hu)
 have HVC:=sH hvc;clear hvc;by_cases he:i=l.length
 ·subst he;clear own hv hvb;have q1:((l.length:Int) == (l.length:Int))=true:=by simp
  have HX:Hid (L=flR lnR l++lnR.enc x):=by unfold Hid;rw[HX.out,List.take_length,List.drop_length,cV]
  have hsl:SlD w (fun _=>True) 5 (.slice (some ⟨vb,0,none⟩) 1 1) (lnR.enc x):=⟨_,1,1,rfl,by rw[lnR.len,Nat.one_mul];rfl,Nat.le_refl _,by unfold maxLen;omega,fun _=>⟨vb,0,rfl,trivial,fun j u hu=>by rw[Nat.zero_add,aA HV.out];simpa using hu⟩⟩;have HSL:=sH hsl;clear hsl;cases A with
  |none=>
   have h0:l.length=0:=by
    rcases HO.out.2 with⟨_,h⟩|⟨g,cap,cur,e,_⟩
    ·exact h
    cases e
   obtain rfl:=List.eq_nil_of_length_eq_zero h0;clear h0;rw[show([]:List Ln).length=0 from rfl] at*
   go_enter Tryz.func150,Tryz.ntmps150;go_wp2_with (at_builtin;refine fB Cl rfl _ _ rfl base none 0 c (flR lnR []) rfl HO.out (some ⟨vb,0,none⟩) 1 1 (lnR.enc x) rfl HSL.out (lnR.one x) (by omega) (by unfold maxLen;omega) hb ?_;intro A' c' w' own' F' bl');go_ret;exact⟨A',c',rfl,by rw[HX.out];exact own',F'⟩
  |some a=>
   go_enter Tryz.func150,Tryz.ntmps150;go_wp2_with (at_builtin;refine fB Cl rfl _ _ rfl base (some a) l.length c (flR lnR l) rfl HO.out (some ⟨vb,0,none⟩) 1 1 (lnR.enc x) rfl HSL.out (lnR.one x) (by omega) (by unfold maxLen;omega) hb ?_;intro A' c' w' own' F' bl');all_goals(go_ret;exact⟨A',c',rfl,by rw[HX.out];exact own',F'⟩)
 have hin:i<l.length:=by omega
 obtain⟨g,rfl⟩:=dZ own (by omega);obtain⟨hz,hcs,hgw,hbg,hq1,hq2⟩:=aY own;clear hq1 hq2;have HZ:=sH hz;have HCS:=sH hcs;have hvg:vb≠g:=fun e=>hvb (by rw[e];rfl);obtain⟨ti,z,hu,hti,hzz,hsize,hby,hzs,_⟩:=Cl;have hsz:(Tryz.prog.info? 74).map (·.size)=some 5:=by rw[hti];simp[hsize]
 clear hz hcs hv hvb;have hi3:i≤1000:=by omega
 have q1:((i:Int) == (l.length:Int))=false:=by rw[beq_eq_false_iff_ne];omega
 have q5:((i:Int)+1).toNat=i+1:=by omega
 have q6:(0:Int)≤(i:Int)+1:=by omega
 have hlen:=dQ lnR l;have hlen:(flR lnR l).length=l.length*5:=hlen;have hsplit:flR lnR (l.take i++x::l.drop i)=(flR lnR l).take (i*5)++lnR.enc x++(flR lnR l).drop (i*5):=by
  have h1:(flR lnR l).take (i*5)=flR lnR (l.take i):=gH lnR l i;have h2:flR lnR l=flR lnR (l.take i)++flR lnR (l.drop i):=by rw[←fW,List.take_append_drop]
  have h3:(flR lnR l).drop (i*5)=flR lnR (l.drop i):=by
   have h4:=List.take_append_drop (i*5) (flR lnR l);rw[h1] at h4;exact List.append_cancel_left (h4.trans h2)
  rw[h1,h3,fW,gG,List.append_assoc]
 have HX:Hid (L=(flR lnR l).take (i*5)++lnR.enc x++(flR lnR l).drop (i*5)):=HX.out.trans hsplit;clear hsplit own;by_cases hroom:l.length+1≤c
 ·obtain⟨ys,hys,own1⟩:=sB HO.out hroom;have HO1:=sH own1;clear own1;have q7:(l.length:Int)+1≤(c:Int):=by omega
  have q8:¬(c=i):=by omega
  have q9:¬(c=i+1):=by omega
  have q10:(i:Int)+1≤(l.length:Int)+1:=by omega
  have q11:(i:Int)≤(l.length:Int)+1:=by omega
  have q13:IntKind.i64.wrap ((i:Int)+1)=(i:Int)+1:=kF hi3;have hov:∀lb cb,(callFunc 178 #[.slice (some ⟨vb,0,none⟩) 1 1,.slice (some ⟨g,(i+1)*5,none⟩) lb cb]).run Tryz.prog w= .ok (.value (.bool false)) w:=fun lb cb=>by
   rw[run_callFunc_extern Tryz.func178 (by kernel_rfl) (by kernel_rfl) (by kernel_rfl) (e:=Extern.SlicesOverlaps.overlaps #[26,26] #[4]) (by kernel_rfl)];rw[Lib.run_overlaps_apart w 26 4 74 hu 5 (fun w=>by simp[sizeOf,typeInfo,hti,hsize]) ⟨vb,0,none⟩ ⟨g,(i+1)*5,none⟩ 1 1 lb cb hvg 74 74 5 (c*5) (by unfold World.shape?;rw[HV.out];rfl) (sA HO.out) (by omega) (aB HV.out 0) (aB HV.out 5)];rfl
  clear HB;go_enter Tryz.func150,Tryz.ntmps150;go_upto_region 15 with(simp only[hov])
  refine aL (fun W=>Fr none w W) 8 95 [some 76,some 75,some 74,some 73,some 72,some 71,some 70,some 69] (by kernel_rfl) (by kernel_rfl) (by kernel_rfl) (Nat.le_refl _) ((Fr.refl _ _).drew) ?_;refine FxL.p [] [0] ?_;refine FxL.p [] [1] ?_;refine FxL.p [] [7] ?_;refine FxL.p [(1,1,70),(0,2,71)] [] ?_;refine FxL.p [(3,0,69),(0,3,72)] [] ?_;refine FxL.p [] [0] ?_;refine FxL.p [] [1] ?_;refine FxL.p [(1,5,74),(0,6,75)] [] ?_;refine FxL.done (fun W hW=>?_);simp only[bF];try simp only[sI]
  try simp only[sK]
  have ownW:=aR HO1.out hW (by simp);have hcp1:∀ty dl dc sl sc,Nat.min sl dl=l.length - i→(Builtin.copy_ #[26,26] ty #[.slice (some ⟨g,(i+1)*5,none⟩) dl dc,.slice (some ⟨g,i*5,none⟩) sl sc]).run Tryz.prog W= .ok (goInt (Nat.min sl dl)) (W.setCells g ((i+1)*5) ((flR lnR l).drop (i*5))):=fun ty dl dc sl sc hmin=>
   eE W _ _ ty 74 5 g _ dl dc _ sl sc _ hu hsz (by rw[hmin,List.length_drop,hlen];omega) (fun j u hu=>by rw[Addr.add_lit];rw[List.getElem?_drop] at hu;exact hW.keep (HCS.out _ _ hu)) (fun j hj=>dF ownW _ (by rw[List.length_drop,hlen] at hj;omega)) (fun j _=>(aY ownW).1 _) (fun u hu=>dA lnR l u (List.mem_of_mem_drop hu))
  have own2:=yY (i:=i) (v:=[]) ownW hlen hys (by omega);have F2:Fr (some g) W (W.setCells g ((i+1)*5) ((flR lnR l).drop (i*5))):=Fr.sets _ _ _;refine wpList_copy_runI _ rfl _ _ _ _ rfl _ _ rfl rfl (hcp1 _ _ _ _ _ (by simp only[Nat.min_def];split<;>omega)) ?_;obtain⟨W1,hW1⟩:∃W1,W1=W.setCells g ((i+1)*5) ((flR lnR l).drop (i*5)):=⟨_,rfl⟩;rw[←hW1] at own2 F2 ⊢;clear hW1 hcp1 ownW;have hcp2:∀ty dl dc,0<dl→(Builtin.copy_ #[26,26] ty #[.slice (some ⟨g,i*5,none⟩) dl dc,.slice (some ⟨vb,0,none⟩) 1 1]).run Tryz.prog W1= .ok (goInt (Nat.min 1 dl)) (W1.setCells g (i*5) (lnR.enc x)):=fun ty dl dc hd=>by
   have hm:Nat.min 1 dl=1:=by simp only[Nat.min_def];split<;>omega
   have hn:(lnR.enc x).length=Nat.min 1 dl*5:=by rw[lnR.len,hm,Nat.one_mul];rfl
   exact eE W1 _ _ ty 74 5 g _ dl dc _ 1 1 (lnR.enc x) hu hsz hn (fun j u hu=>F2.keep (HVC.out W hW j u hu) (by intro e;rw[Addr.add_lit] at e;injection e with e;exact hvg e)) (fun j hj=>dF own2 _ (by rw[lnR.len] at hj;have hj:j<5:=hj;omega)) (fun j _=>(aY own2).1 _) (lnR.one x)
  have own3:=gZ (vs:=lnR.enc x) (i*5) own2 (by rw[List.length_take,List.length_append,hlen];omega) (by rw[List.length_take,List.length_drop,List.length_append,hlen,hys,lnR.len];show min 5 _=5;omega);rw[List.take_append_of_le_length (by rw[hlen];omega),←HX.out] at own3;have F3:Fr (some g) W1 (W1.setCells g (i*5) (lnR.enc x)):=Fr.sets _ _ _;have HO3:=sH own3;have hd0:0<l.length+1 - i:=by omega
  clear own2 own3;go_wp2_with (at_builtin;refine wpList_copy_runI _ rfl _ _ _ _ rfl _ _ rfl rfl (hcp2 _ _ _ hd0) ?_);go_ret;exact⟨some ⟨g,0,none⟩,c,rfl,HO3.out,(hW.mono.same F2).same F3⟩
 obtain rfl:c=l.length:=by omega
 have q7:(l.length:Int)<(l.length:Int)+1:=by omega
 have q8:¬(l.length=i):=by omega
 have q10:(i:Int)+1≤(l.length:Int)+1:=by omega
 have q11:(i:Int)≤(l.length:Int)+1:=by omega
 have q13:IntKind.i64.wrap ((i:Int)+1)=(i:Int)+1:=kF hi3;have hkk:(l.length:Int)+1 - (i:Int)=((l.length+1 - i:Nat):Int):=by omega
 have hik:i+(l.length+1 - i)=l.length+1:=by omega
 have hold:(Builtin.firstCells ti.size i (.slice (some ⟨g,0,none⟩) i l.length)).run Tryz.prog w.drew= .ok ((flR lnR l).take (i*5)).toArray w.drew:=by
  rw[hsize];exact run_firstCells_some w.drew 5 i ⟨g,0,none⟩ i l.length _ (by rw[List.length_take,hlen];omega) (fun j v hj=>by
   rw[Addr.add_lit,Nat.zero_add];rw[List.getElem?_take] at hj;split at hj
   ·exact HCS.out _ _ hj
   cases hj)
 obtain⟨G,hG⟩:∃G,G=grownCap w (l.length+1) l.length 74:=⟨_,rfl⟩;have hGn:l.length+1≤G:=by rw[hG];exact grownCap_ge w _ _ _
 have hGm:G≤maxLen:=by rw[hG];exact grownCap_le_maxLen w _ _ _ (by unfold maxLen;omega)
 obtain⟨Z,hZ⟩:∃Z,Z=(Builtin.zeroCells z.cells (l.length+1 - i)).toList:=⟨_,rfl⟩;have hZl:Z.length=(l.length+1 - i)*5:=by rw[hZ];simp[Builtin.zeroCells,hzs]
 obtain⟨Y,hY⟩:∃Y,Y=Builtin.zeroCells z.cells (G - (l.length+1)):=⟨_,rfl⟩;have hYl:Y.size=(G - (l.length+1))*5:=by rw[hY];simp[Builtin.zeroCells,hzs]
 have hrz:∀ty,(Builtin.append_ #[26,3] ty #[.slice (some ⟨g,0,none⟩) i l.length,.int .i64 ((l.length+1 - i:Nat):Int)]).run Tryz.prog w=
   .ok (.slice (some ⟨w.heap.size,0,none⟩) (l.length+1) G) (w.drew.alloc (.cells (((flR lnR l).take (i*5)).toArray++Z.toArray++Y) 74)):=fun ty=>by
  have h:=Lib.run_append_grow_zeros w 26 3 ty 74 ti z .i64 .i64 hu (by kernel_rfl) hti hzz (some ⟨g,0,none⟩) i l.length _ hold (l.length+1 - i) (by omega) (by omega) (by omega) (by omega) (by rw[hby];omega) (by rw[hby,hik];exact growslice_fits (by omega) (by omega));rw[hik,←hG,←hY] at h;rw[hZ];exact h
 have hYs:(((flR lnR l).take (i*5)).toArray++Z.toArray++Y).size=G*5:=by
  simp only[Array.size_append,List.size_toArray,List.length_take,hlen,hZl,hYl];omega
 have hYt:(((flR lnR l).take (i*5)).toArray++Z.toArray++Y).toList.take ((l.length+1)*5)=(flR lnR l).take (i*5)++Z:=by
  simp only[Array.toList_append];rw[List.take_left' (by simp only[List.length_append,List.length_take,hlen,hZl];omega)]
 obtain⟨W1,hW1⟩:∃W1,W1=w.drew.alloc (.cells (((flR lnR l).take (i*5)).toArray++Z.toArray++Y) 74):=⟨_,rfl⟩;rw[←hW1] at hrz;have F1:Fr none w W1:=hW1▸(Fr.refl none w).drew.alloc _;have own1:W1.ownsRow base 74 5 (.slice (some ⟨w.heap.size,0,none⟩) (l.length+1) G) (l.length+1) ((flR lnR l).take (i*5)++Z):=⟨by rw[List.length_append,List.length_take,hlen,hZl];omega,.inr ⟨w.heap.size,G,_,rfl,hb,by rw[hW1];exact heap_alloc_new w.drew _,hGn,hGm,hYs,hYt⟩⟩;have hvw:vb<w.heap.size:=aC HV.out;obtain⟨B,hB⟩:∃B,B=w.heap.size:=⟨_,rfl⟩;rw[←hB] at own1 hrz hvw;have hgB:g<B:=by omega
 have HBe:=sH hB;clear hW1 hYs hYt hY hYl hZ hold hG hB;unfold maxLen at hGm;have own2:=gZ (vs:=lnR.enc x) (i*5) (P:=(flR lnR l).take (i*5)) (Q:=Z.take 5) (R:=Z.drop 5) (by rw[List.append_assoc,List.take_append_drop];exact own1) (by rw[List.length_take,hlen];omega) (by rw[List.length_take,hZl,lnR.len];show min 5 _=5;omega);have hcpA:∀ty dl dc,0<dl→(Builtin.copy_ #[26,26] ty #[.slice (some ⟨B,i*5,none⟩) dl dc,.slice (some ⟨vb,0,none⟩) 1 1]).run Tryz.prog W1= .ok (goInt (Nat.min 1 dl)) (W1.setCells B (i*5) (lnR.enc x)):=fun ty dl dc hd=>by
  have hm:Nat.min 1 dl=1:=by simp only[Nat.min_def];split<;>omega
  have hn:(lnR.enc x).length=Nat.min 1 dl*5:=by rw[lnR.len,hm,Nat.one_mul];rfl
  exact eE W1 _ _ ty 74 5 B _ dl dc _ 1 1 (lnR.enc x) hu hsz hn (fun j u hu=>HVC.out W1 F1 j u hu) (fun j hj=>dF own1 _ (by rw[lnR.len] at hj;have hj:j<5:=hj;omega)) (fun j _=>(aY own1).1 _) (lnR.one x)
 have F2:Fr (some B) W1 (W1.setCells B (i*5) (lnR.enc x)):=Fr.sets _ _ _;have hd0:0<l.length+1 - i:=by omega
 have q14:¬(G=i):=by omega
 have q15:¬(G=i+1):=by omega
 have q16:(l.length:Int)+1≤(G:Int):=by omega
 obtain⟨W2,hW2⟩:∃W2,W2=W1.setCells B (i*5) (lnR.enc x):=⟨_,rfl⟩;rw[←hW2] at own2 F2 hcpA;clear own1 hW2 HB;have HO2:=sH own2;clear own2;go_enter Tryz.func150,Tryz.ntmps150;go_upto_region 11 with(at_builtin;first|(refine Lib.wpList_append_run _ rfl _ _ _ _ rfl _ _ rfl rfl _ _ (hrz _) ?_)|(refine wpList_copy_runI _ rfl _ _ _ _ rfl _ _ rfl rfl (hcpA _ _ _ hd0) ?_))
 refine aL (fun W=>Fr none W2 W) 8 95 [some 53,some 52,some 51,some 50,some 49,some 48,some 47,some 46] (by kernel_rfl) (by kernel_rfl) (by kernel_rfl) (Nat.le_refl _) ((Fr.refl _ _).drew) ?_;refine FxL.p [] [9] ?_;refine FxL.p [] [1] ?_;refine FxL.p [] [7] ?_;refine FxL.p [(1,1,47),(0,2,48)] [] ?_;refine FxL.p [(3,0,46),(0,3,49)] [] ?_;refine FxL.p [] [0] ?_;refine FxL.p [] [1] ?_;refine FxL.p [(1,5,51),(0,6,52)] [] ?_;refine FxL.done (fun W hW=>?_);simp only[bF];try simp only[sI]
 try simp only[sK]
 have ownW:=aR HO2.out hW (by simp);have hcpB:∀ty dl dc sc,l.length - i≤dl→(Builtin.copy_ #[26,26] ty #[.slice (some ⟨B,(i+1)*5,none⟩) dl dc,.slice (some ⟨g,i*5,none⟩) (l.length - i) sc]).run Tryz.prog W= .ok (goInt (Nat.min (l.length - i) dl)) (W.setCells B ((i+1)*5) ((flR lnR l).drop (i*5))):=fun ty dl dc sc hd=>by
  have hm:Nat.min (l.length - i) dl=l.length - i:=by simp only[Nat.min_def];split<;>omega
  have hn:((flR lnR l).drop (i*5)).length=Nat.min (l.length - i) dl*5:=by rw[hm,List.length_drop,hlen];omega
  exact eE W _ _ ty 74 5 B _ dl dc _ _ sc _ hu hsz hn (fun j u hu=>by rw[Addr.add_lit];rw[List.getElem?_drop] at hu;exact hW.keep (F2.keep (F1.keep (HCS.out _ _ hu)) (by intro e;injection e with e;have e:g=B:=e;omega)) (by simp)) (fun j hj=>dF ownW _ (by rw[List.length_drop,hlen] at hj;omega)) (fun j _=>(aY ownW).1 _) (fun u hu=>dA lnR l u (List.mem_of_mem_drop hu))
 have own3:=gZ (vs:=(flR lnR l).drop (i*5)) ((i+1)*5) (P:=(flR lnR l).take (i*5)++lnR.enc x) (Q:=Z.drop 5) (R:=[]) (by rw[List.append_nil];exact ownW) (by rw[List.length_append,List.length_take,hlen,lnR.len];show _=min (i*5) _+5;omega) (by rw[List.length_drop,List.length_drop,hZl,hlen];omega);rw[List.append_nil,←HX.out] at own3;have F3:Fr (some B) W (W.setCells B ((i+1)*5) ((flR lnR l).drop (i*5))):=Fr.sets _ _ _;have HO3:=sH own3;have hd1:l.length - i≤l.length - i:=Nat.le_refl _;refine wpList_copy_runI _ rfl _ _ _ _ rfl _ _ rfl rfl (hcpB _ _ _ _ (by omega)) ?_;clear own3 ownW hcpB hcpA hrz;go_wp2;go_ret;have hBw:=HBe.out;exact⟨some ⟨B,0,none⟩,G,rfl,HO3.out,((F1.new F2 (by omega)).new (hW.mono.same F3) (by omega)).mono⟩
end Go.Proofs.YthaggndnfamhjaaGreatDoor
