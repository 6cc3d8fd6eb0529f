/- Texts, joined. -/
import Derived.Test.YthaggndnfamhjaaGreatDoorProg
import Derived.Test.YthaggndnfamhjaaGreatDoorJK27
import Derived.Test.YthaggndnfamhjaaGreatDoorJK5
import Derived.Test.YthaggndnfamhjaaGreatDoorJK16
import Derived.Lib.AppendZerosOnto
import Derived.Test.YthaggndnfamhjaaGreatDoorJA

set_option linter.unusedSimpArgs false
set_option linter.unusedVariables false
set_option maxRecDepth 100000
set_option maxHeartbeats 16000000
namespace Go.Proofs.YthaggndnfamhjaaGreatDoor
open Go.RowKit
theorem AJ(l:List Ln)(g c k base:Nat)(w:World)(hk:k<l.length)(hl:l.length≤1000000)(hb:base≤w.heap.size)(own:w.ownsRow base 74 5 (.slice (some ⟨g,0,none⟩) l.length c) l.length (flR lnR l)):
  Calls Tryz.prog 151 #[.slice (some ⟨g,0,none⟩) l.length c,.int .i64 (k:Int),.int .i64 ((k:Int)+1)] w fun e w'=>e= .returned (.slice (some ⟨g,0,none⟩) (l.length - 1) c)∧w'.ownsRow base 74 5 (.slice (some ⟨g,0,none⟩) (l.length - 1) c) (l.length - 1) (flR lnR (l.eraseIdx k))∧Fr (some g) w w':=by
 obtain⟨hz,hcs,hgw,hbg,hnc,hcm⟩:=aY own;unfold maxLen at hcm;obtain⟨m0,hm⟩:∃m0,l.length=m0+1:=⟨l.length - 1,by omega⟩;rw[hm] at hnc hk hl own ⊢;rw[Nat.add_sub_cancel];have HO:=sH own;have HCS:=sH hcs;have HZ:=sH hz;clear own hcs hz;obtain⟨i,z,hu,hi,hzz,hsize,_,hzs,_⟩:=Cl;have hz0:z=(.agg #[.int .i64 0,.string ⟨#[]⟩,.int .i64 0,.int .i64 0,.int .i64 0]):=by
  have e:(Tryz.prog.info? 74).map (·.zero)=some (some (.agg #[.int .i64 0,.string ⟨#[]⟩,.int .i64 0,.int .i64 0,.int .i64 0])):=by kernel_rfl
  rw[hi] at e;simp only[Option.map_some,hzz,Option.some.injEq] at e;exact e
 have hz1:∀v ∈ z.cells.toList,v.oneCell'=true:=by
  rw[hz0];exact List.all_eq_true.1 (by kernel_rfl:(Value.cells (.agg #[.int .i64 0,.string ⟨#[]⟩,.int .i64 0,.int .i64 0,.int .i64 0])).toList.all (fun v=>v.oneCell')=true)
 have hzv:∀w,(zeroValue 74).run Tryz.prog w= .ok z w:=fun w=>by simp[zeroValue,typeInfo,hi,hzz]
 clear hz0;have q1:((k:Int) == (k:Int)+1)=false:=by rw[beq_eq_false_iff_ne];omega
 have q2:((k:Int)+1).toNat=k+1:=by omega
 have q3:(k:Int)≤(k:Int)+1:=by omega
 have q4:(k:Int)+1≤(m0:Int)+1:=by omega
 have q5:(m0:Int)+1≤(c:Int):=by omega
 have q6:k≤c:=by omega
 have q7:(0:Int)≤(k:Int)+1:=by omega
 by_cases hck:c=k+1
 ·obtain rfl:k=m0:=by omega
  subst hck;go_enter Tryz.func151,Tryz.ntmps151;go_upto_region 5 with(fail)
  refine aL (fun W=>Fr none w W) 6 33 [some 25,some 24,some 23,some 22,some 21,some 20] (by kernel_rfl) (by kernel_rfl) (by kernel_rfl) (Nat.le_refl _) ((Fr.refl _ _).drew) ?_;refine FxL.p [] [0] ?_;refine FxL.p [] [1] ?_;refine FxL.p [(1,0,20),(0,1,21)] [] ?_;refine FxL.p [] [0] ?_;refine FxL.p [] [2] ?_;refine FxL.p [(1,3,23),(0,4,24)] [] ?_;refine FxL.done (fun W hW=>?_);simp only[bF];try simp only[sI]
  try simp only[sK]
  obtain⟨w2,hrun,own2,F2⟩:=run_append_fits (P:=Tryz.prog) W base 26 26 74 i 5 hu hi hsize g k (k+1) ((flR lnR l).take (k*5)) (kE (aR HO.out hW (by simp)) k (by omega)) (⟨g,0,none⟩:Addr) (k - k) ((k+1) - (k+1)) ((flR lnR l).drop ((k+1)*5)) (by rw[List.length_drop,dQ,hm];show(k+1)*5 - (k+1)*5=(k - k)*5;omega) (fun j u hu=>by
   have hj:=(List.getElem?_eq_some_iff.1 hu).1;rw[List.length_drop,dQ,hm] at hj;have hj:j<(k+1)*5 - (k+1)*5:=hj;rw[List.getElem?_drop] at hu;have:=hW.keep (HCS.out _ _ hu);first|(rw[Addr.add_lit];exact this)|omega) (fun u hu=>dA lnR l u (List.mem_of_mem_drop hu)) (by omega)
  simp only[Nat.sub_self,Nat.add_zero] at hrun own2;have F2:Fr (some g) W w2:=F2;have hMC:k*5+5≤(k+1)*5:=by omega
  have HCL:=sH (iE (P:=Tryz.prog) w2 26 74 0 z hu hzv hz1 g (k*5) ((k+1) - k) (fun j hj=>dF own2 _ (by omega)) (fun j _=>(aY own2).1 _));have own3:=iV z.cells.toList (k*5) w2 own2 (Nat.le_refl _);have F3:Fr (some g) w2 (w2.setCells g (k*5) z.cells.toList):=Fr.sets _ _ _;rw[show(flR lnR l).take (k*5)++(flR lnR l).drop ((k+1)*5)=flR lnR (l.eraseIdx k) from kU lnR l k] at own3;have HO3:=sH own3;clear own3 own2;refine Lib.wpList_append_run _ rfl _ _ _ _ rfl _ _ rfl rfl _ _ hrun ?_;clear hrun;have hcl:=HCL.out;clear HCL hzv hz1 hzs hzz;rw[show k+1 - k=1 from by omega] at hcl;generalize z.cells.toList=ZC at*
  go_wp2;go_ret;exact⟨rfl,HO3.out,(hW.mono.same F2).same F3⟩
 have hq:k+(m0 - k)=m0:=by omega
 go_enter Tryz.func151,Tryz.ntmps151;go_upto_region 5 with(fail)
 refine aL (fun W=>Fr none w W) 6 33 [some 25,some 24,some 23,some 22,some 21,some 20] (by kernel_rfl) (by kernel_rfl) (by kernel_rfl) (Nat.le_refl _) ((Fr.refl _ _).drew) ?_;refine FxL.p [] [0] ?_;refine FxL.p [] [1] ?_;refine FxL.p [(1,0,20),(0,1,21)] [] ?_;refine FxL.p [] [0] ?_;refine FxL.p [] [2] ?_;refine FxL.p [(1,3,23),(0,4,24)] [] ?_;refine FxL.done (fun W hW=>?_);simp only[bF];try simp only[sI]
 try simp only[sK]
 obtain⟨w2,hrun,own2,F2⟩:=run_append_fits (P:=Tryz.prog) W base 26 26 74 i 5 hu hi hsize g k c ((flR lnR l).take (k*5)) (kE (aR HO.out hW (by simp)) k (by omega)) (⟨g,(k+1)*5,none⟩:Addr) (m0 - k) (c - (k+1)) ((flR lnR l).drop ((k+1)*5)) (by rw[List.length_drop,dQ,hm];show(m0+1)*5 - (k+1)*5=(m0 - k)*5;omega) (fun j u hu=>by
  have hj:=(List.getElem?_eq_some_iff.1 hu).1;rw[List.length_drop,dQ,hm] at hj;have hj:j<(m0+1)*5 - (k+1)*5:=hj;rw[List.getElem?_drop] at hu;have:=hW.keep (HCS.out _ _ hu);first|(rw[Addr.add_lit];exact this)|omega) (fun u hu=>dA lnR l u (List.mem_of_mem_drop hu)) (by omega)
 rw[hq] at hrun own2;have F2:Fr (some g) W w2:=F2;have hMC:m0*5+5≤c*5:=by omega
 have HCL:=sH (iE (P:=Tryz.prog) w2 26 74 0 z hu hzv hz1 g (m0*5) (c - m0) (fun j hj=>dF own2 _ (by omega)) (fun j _=>(aY own2).1 _));have own3:=iV z.cells.toList (m0*5) w2 own2 (Nat.le_refl _);have F3:Fr (some g) w2 (w2.setCells g (m0*5) z.cells.toList):=Fr.sets _ _ _;rw[show(flR lnR l).take (k*5)++(flR lnR l).drop ((k+1)*5)=flR lnR (l.eraseIdx k) from kU lnR l k] at own3;have HO3:=sH own3;clear own3 own2;refine Lib.wpList_append_run _ rfl _ _ _ _ rfl _ _ rfl rfl _ _ hrun ?_;clear hrun;have hcl:=HCL.out;clear HCL hzv hz1 hzs hzz
 skip
 generalize z.cells.toList=ZC at*
 go_wp2;go_ret;exact⟨rfl,HO3.out,(hW.mono.same F2).same F3⟩
theorem mZ(l:List Ofr)(g c k base:Nat)(w:World)(hk:k<l.length)(hl:l.length≤1000000)(hb:base≤w.heap.size)(own:w.ownsRow base 67 9 (.slice (some ⟨g,0,none⟩) l.length c) l.length (flR ofR l)):
  Calls Tryz.prog 118 #[.slice (some ⟨g,0,none⟩) l.length c,.int .i64 (k:Int),.int .i64 ((k:Int)+1)] w fun e w'=>e= .returned (.slice (some ⟨g,0,none⟩) (l.length - 1) c)∧w'.ownsRow base 67 9 (.slice (some ⟨g,0,none⟩) (l.length - 1) c) (l.length - 1) (flR ofR (l.eraseIdx k))∧Fr (some g) w w':=by
 obtain⟨hz,hcs,hgw,hbg,hnc,hcm⟩:=aY own;unfold maxLen at hcm;obtain⟨m0,hm⟩:∃m0,l.length=m0+1:=⟨l.length - 1,by omega⟩;rw[hm] at hnc hk hl own ⊢;rw[Nat.add_sub_cancel];have HO:=sH own;have HCS:=sH hcs;have HZ:=sH hz;clear own hcs hz;obtain⟨i,z,hu,hi,hzz,hsize,_,hzs,_⟩:=Et;have hz0:z=(.agg #[.int .i64 0,.int .i64 0,.string ⟨#[]⟩,.int .i64 0,.string ⟨#[]⟩,.int .i64 0,.int .i64 0,.int .i64 0,.int .i64 0]):=by
  have e:(Tryz.prog.info? 67).map (·.zero)=some (some (.agg #[.int .i64 0,.int .i64 0,.string ⟨#[]⟩,.int .i64 0,.string ⟨#[]⟩,.int .i64 0,.int .i64 0,.int .i64 0,.int .i64 0])):=by kernel_rfl
  rw[hi] at e;simp only[Option.map_some,hzz,Option.some.injEq] at e;exact e
 have hz1:∀v ∈ z.cells.toList,v.oneCell'=true:=by
  rw[hz0];exact List.all_eq_true.1 (by kernel_rfl:(Value.cells (.agg #[.int .i64 0,.int .i64 0,.string ⟨#[]⟩,.int .i64 0,.string ⟨#[]⟩,.int .i64 0,.int .i64 0,.int .i64 0,.int .i64 0])).toList.all (fun v=>v.oneCell')=true)
 have hzv:∀w,(zeroValue 67).run Tryz.prog w= .ok z w:=fun w=>by simp[zeroValue,typeInfo,hi,hzz]
 clear hz0;have q1:((k:Int) == (k:Int)+1)=false:=by rw[beq_eq_false_iff_ne];omega
 have q2:((k:Int)+1).toNat=k+1:=by omega
 have q3:(k:Int)≤(k:Int)+1:=by omega
 have q4:(k:Int)+1≤(m0:Int)+1:=by omega
 have q5:(m0:Int)+1≤(c:Int):=by omega
 have q6:k≤c:=by omega
 have q7:(0:Int)≤(k:Int)+1:=by omega
 by_cases hck:c=k+1
 ·obtain rfl:k=m0:=by omega
  subst hck;go_enter Tryz.func118,Tryz.ntmps118;go_upto_region 5 with(fail)
  refine aL (fun W=>Fr none w W) 6 33 [some 25,some 24,some 23,some 22,some 21,some 20] (by kernel_rfl) (by kernel_rfl) (by kernel_rfl) (Nat.le_refl _) ((Fr.refl _ _).drew) ?_;refine FxL.p [] [0] ?_;refine FxL.p [] [1] ?_;refine FxL.p [(1,0,20),(0,1,21)] [] ?_;refine FxL.p [] [0] ?_;refine FxL.p [] [2] ?_;refine FxL.p [(1,3,23),(0,4,24)] [] ?_;refine FxL.done (fun W hW=>?_);simp only[bF];try simp only[sI]
  try simp only[sK]
  obtain⟨w2,hrun,own2,F2⟩:=run_append_fits (P:=Tryz.prog) W base 27 27 67 i 9 hu hi hsize g k (k+1) ((flR ofR l).take (k*9)) (kE (aR HO.out hW (by simp)) k (by omega)) (⟨g,0,none⟩:Addr) (k - k) ((k+1) - (k+1)) ((flR ofR l).drop ((k+1)*9)) (by rw[List.length_drop,dQ,hm];show(k+1)*9 - (k+1)*9=(k - k)*9;omega) (fun j u hu=>by
   have hj:=(List.getElem?_eq_some_iff.1 hu).1;rw[List.length_drop,dQ,hm] at hj;have hj:j<(k+1)*9 - (k+1)*9:=hj;rw[List.getElem?_drop] at hu;have:=hW.keep (HCS.out _ _ hu);first|(rw[Addr.add_lit];exact this)|omega) (fun u hu=>dA ofR l u (List.mem_of_mem_drop hu)) (by omega)
  simp only[Nat.sub_self,Nat.add_zero] at hrun own2;have F2:Fr (some g) W w2:=F2;have hMC:k*9+9≤(k+1)*9:=by omega
  have HCL:=sH (iE (P:=Tryz.prog) w2 27 67 0 z hu hzv hz1 g (k*9) ((k+1) - k) (fun j hj=>dF own2 _ (by omega)) (fun j _=>(aY own2).1 _));have own3:=iV z.cells.toList (k*9) w2 own2 (Nat.le_refl _);have F3:Fr (some g) w2 (w2.setCells g (k*9) z.cells.toList):=Fr.sets _ _ _;rw[show(flR ofR l).take (k*9)++(flR ofR l).drop ((k+1)*9)=flR ofR (l.eraseIdx k) from kU ofR l k] at own3;have HO3:=sH own3;clear own3 own2;refine Lib.wpList_append_run _ rfl _ _ _ _ rfl _ _ rfl rfl _ _ hrun ?_;clear hrun;have hcl:=HCL.out;clear HCL hzv hz1 hzs hzz;rw[show k+1 - k=1 from by omega] at hcl;generalize z.cells.toList=ZC at*
  go_wp2;go_ret;exact⟨rfl,HO3.out,(hW.mono.same F2).same F3⟩
 have hq:k+(m0 - k)=m0:=by omega
 go_enter Tryz.func118,Tryz.ntmps118;go_upto_region 5 with(fail)
 refine aL (fun W=>Fr none w W) 6 33 [some 25,some 24,some 23,some 22,some 21,some 20] (by kernel_rfl) (by kernel_rfl) (by kernel_rfl) (Nat.le_refl _) ((Fr.refl _ _).drew) ?_;refine FxL.p [] [0] ?_;refine FxL.p [] [1] ?_;refine FxL.p [(1,0,20),(0,1,21)] [] ?_;refine FxL.p [] [0] ?_;refine FxL.p [] [2] ?_;refine FxL.p [(1,3,23),(0,4,24)] [] ?_;refine FxL.done (fun W hW=>?_);simp only[bF];try simp only[sI]
 try simp only[sK]
 obtain⟨w2,hrun,own2,F2⟩:=run_append_fits (P:=Tryz.prog) W base 27 27 67 i 9 hu hi hsize g k c ((flR ofR l).take (k*9)) (kE (aR HO.out hW (by simp)) k (by omega)) (⟨g,(k+1)*9,none⟩:Addr) (m0 - k) (c - (k+1)) ((flR ofR l).drop ((k+1)*9)) (by rw[List.length_drop,dQ,hm];show(m0+1)*9 - (k+1)*9=(m0 - k)*9;omega) (fun j u hu=>by
  have hj:=(List.getElem?_eq_some_iff.1 hu).1;rw[List.length_drop,dQ,hm] at hj;have hj:j<(m0+1)*9 - (k+1)*9:=hj;rw[List.getElem?_drop] at hu;have:=hW.keep (HCS.out _ _ hu);first|(rw[Addr.add_lit];exact this)|omega) (fun u hu=>dA ofR l u (List.mem_of_mem_drop hu)) (by omega)
 rw[hq] at hrun own2;have F2:Fr (some g) W w2:=F2;have hMC:m0*9+9≤c*9:=by omega
 have HCL:=sH (iE (P:=Tryz.prog) w2 27 67 0 z hu hzv hz1 g (m0*9) (c - m0) (fun j hj=>dF own2 _ (by omega)) (fun j _=>(aY own2).1 _));have own3:=iV z.cells.toList (m0*9) w2 own2 (Nat.le_refl _);have F3:Fr (some g) w2 (w2.setCells g (m0*9) z.cells.toList):=Fr.sets _ _ _;rw[show(flR ofR l).take (k*9)++(flR ofR l).drop ((k+1)*9)=flR ofR (l.eraseIdx k) from kU ofR l k] at own3;have HO3:=sH own3;clear own3 own2;refine Lib.wpList_append_run _ rfl _ _ _ _ rfl _ _ rfl rfl _ _ hrun ?_;clear hrun;have hcl:=HCL.out;clear HCL hzv hz1 hzs hzz
 skip
 generalize z.cells.toList=ZC at*
 go_wp2;go_ret;exact⟨rfl,HO3.out,(hW.mono.same F2).same F3⟩
end Go.Proofs.YthaggndnfamhjaaGreatDoor
