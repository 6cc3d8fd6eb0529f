/- Texts, joined. -/
import Derived.Test.YthaggndnfamhjaaGreatDoorProg
import Derived.Test.YthaggndnfamhjaaGreatDoorJK32
import Derived.Test.YthaggndnfamhjaaGreatDoorJK19
import Derived.Test.YthaggndnfamhjaaGreatDoorJK1
import Derived.Test.YthaggndnfamhjaaGreatDoorJA

set_option linter.unusedSimpArgs false
set_option linter.unusedVariables false
set_option maxRecDepth 100000
set_option maxHeartbeats 16000000
namespace Go.Proofs.YthaggndnfamhjaaGreatDoor
open Go.RowKit
structure lJ {α:Type} (keep:α→Bool) (l:List α) (i j:Nat) (d:List α):Prop where
 len:d.length=l.length
 lt:i<j
 le:j≤l.length
 low:d.take i=(l.take j).filter keep
 high:d.drop j=l.drop j
theorem lJ.start{α:Type}{keep:α→Bool}{l:List α}{k:Nat}(hk:k<l.length)(hall:∀j (hj:j<l.length),j<k→keep l[j]=true)(hno:keep l[k]=false):lJ keep l k (k+1) l:=by
 refine⟨rfl,by omega,by omega,?_,rfl⟩;rw[List.take_succ_eq_append_getElem hk,List.filter_append];simp only[List.filter_cons,hno,List.filter_nil];rw[List.filter_eq_self.2 ?_]
 ·simp
 intro x hx;obtain⟨i,hi,rfl⟩:=List.getElem_of_mem hx;rw[List.getElem_take];exact hall i _ (by simp at hi;omega)
theorem lJ.at_{α:Type}{keep:α→Bool}{l d:List α}{i j:Nat}(h:lJ keep l i j d)(hj:j<l.length):∃hj':j<d.length,d[j]=l[j]:=by
 refine⟨by rw[h.len];exact hj,?_⟩;have:=congrArg (fun x=>x[0]?) h.high;simp only[List.getElem?_drop,Nat.add_zero] at this;rw[List.getElem?_eq_getElem (by rw[h.len];exact hj),List.getElem?_eq_getElem hj] at this;exact Option.some.inj this
theorem lJ.keep{α:Type}{keep:α→Bool}{l d:List α}{i j:Nat}(h:lJ keep l i j d)(hj:j<l.length)(hv:keep l[j]=true):lJ keep l (i+1) (j+1) (d.set i l[j]):=by
 have hl:=h.len;have hlt:=h.lt;refine⟨by simp[hl],by omega,by omega,?_,?_⟩
 ·rw[List.take_succ_eq_append_getElem (by simp;omega),List.take_set_of_le (Nat.le_refl _),h.low,List.take_succ_eq_append_getElem hj,List.filter_append];simp[List.filter_cons,hv]
 rw[List.drop_set,if_pos (by omega),←List.drop_drop,h.high,List.drop_drop]
theorem lJ.skip{α:Type}{keep:α→Bool}{l d:List α}{i j:Nat}(h:lJ keep l i j d)(hj:j<l.length)(hv:keep l[j]=false):lJ keep l i (j+1) d:=by
 have hl:=h.len;have hlt:=h.lt;refine⟨hl,by omega,by omega,?_,?_⟩
 ·rw[h.low,List.take_succ_eq_append_getElem hj,List.filter_append];simp[List.filter_cons,hv]
 rw[←List.drop_drop,h.high,List.drop_drop]
theorem lJ.done{α:Type}{keep:α→Bool}{l d:List α}{i:Nat}(h:lJ keep l i l.length d):d.take i=l.filter keep∧(l.filter keep).length=i:=by
 have h1:=h.low;rw[List.take_length] at h1;refine⟨h1,?_⟩;have:=congrArg List.length h1;have:=h.lt;have:=h.len;rw[List.length_take] at*
 omega
theorem iG{w:World}{base b c k:Nat}{m:List Ofr}{z:Ofr}(h:w.ownsRow base 67 9 (.slice (some ⟨b,0,none⟩) m.length c) m.length (flR ofR (m.set k z)))(hk:k<m.length)(j:Nat)(hj:j<9)(u:Value)(y:Ofr)(hy:(ofR.enc z).set j u=ofR.enc y):
  (w.setCell ⟨b,k*9+j,none⟩ u).ownsRow base 67 9 (.slice (some ⟨b,0,none⟩) m.length c) m.length (flR ofR (m.set k y)):=by
 have:=jU h (k*9+j) u
 rwa [show k*9+j=k*ofR.sz+j from rfl,lR ofR u y j hj (m.set k z) k (by simpa using hk) (by simpa using hy),List.set_set] at this
theorem Ey{w:World}{base b c k:Nat}{m:List Ofr}(y:Ofr)(h:w.ownsRow base 67 9 (.slice (some ⟨b,0,none⟩) m.length c) m.length (flR ofR m))(hk:k<m.length):
  (((((((((w.setCell ⟨b,k*9,none⟩ (.int .i64 y.id)).setCell ⟨b,k*9+1,none⟩ (.int .i64 y.sel)).setCell ⟨b,k*9+2,none⟩ (.string (bL y.sg.code))).setCell ⟨b,k*9+3,none⟩ (.int .i64 y.sg.iss)).setCell ⟨b,k*9+4,none⟩ (.string (bL y.by_.code))).setCell ⟨b,k*9+5,none⟩ (.int .i64 y.by_.iss)).setCell ⟨b,k*9+6,none⟩ (.int .i64 y.amt)).setCell ⟨b,k*9+7,none⟩ (.int .i64 y.num)).setCell ⟨b,k*9+8,none⟩ (.int .i64 y.den)).ownsRow base 67 9 (.slice (some ⟨b,0,none⟩) m.length c) m.length (flR ofR (m.set k y))∧
  Fr (some b) w (((((((((w.setCell ⟨b,k*9,none⟩ (.int .i64 y.id)).setCell ⟨b,k*9+1,none⟩ (.int .i64 y.sel)).setCell ⟨b,k*9+2,none⟩ (.string (bL y.sg.code))).setCell ⟨b,k*9+3,none⟩ (.int .i64 y.sg.iss)).setCell ⟨b,k*9+4,none⟩ (.string (bL y.by_.code))).setCell ⟨b,k*9+5,none⟩ (.int .i64 y.by_.iss)).setCell ⟨b,k*9+6,none⟩ (.int .i64 y.amt)).setCell ⟨b,k*9+7,none⟩ (.int .i64 y.num)).setCell ⟨b,k*9+8,none⟩ (.int .i64 y.den)):=by
 refine⟨?_,((((((((Fr.set1 w ⟨b,k*9,none⟩ _).same (Fr.set1 _ ⟨b,k*9+1,none⟩ _)).same (Fr.set1 _ ⟨b,k*9+2,none⟩ _)).same (Fr.set1 _ ⟨b,k*9+3,none⟩ _)).same (Fr.set1 _ ⟨b,k*9+4,none⟩ _)).same (Fr.set1 _ ⟨b,k*9+5,none⟩ _)).same (Fr.set1 _ ⟨b,k*9+6,none⟩ _)).same (Fr.set1 _ ⟨b,k*9+7,none⟩ _)).same (Fr.set1 _ ⟨b,k*9+8,none⟩ _)⟩;generalize hx:m[k]=x;have h0:=Cr h hk 0 (by decide) (.int .i64 y.id) {x with id:=y.id} (by rw[hx];rfl);have h1:=iG h0 hk 1 (by decide) (.int .i64 y.sel) {x with id:=y.id,sel:=y.sel} rfl;have h2:=iG h1 hk 2 (by decide) (.string (bL y.sg.code)) {x with id:=y.id,sel:=y.sel,sg:=⟨y.sg.code,x.sg.iss⟩} rfl;have h3:=iG h2 hk 3 (by decide) (.int .i64 y.sg.iss) {x with id:=y.id,sel:=y.sel,sg:=y.sg} rfl;have h4:=iG h3 hk 4 (by decide) (.string (bL y.by_.code)) {x with id:=y.id,sel:=y.sel,sg:=y.sg,by_:=⟨y.by_.code,x.by_.iss⟩} rfl;have h5:=iG h4 hk 5 (by decide) (.int .i64 y.by_.iss) {x with id:=y.id,sel:=y.sel,sg:=y.sg,by_:=y.by_} rfl;have h6:=iG h5 hk 6 (by decide) (.int .i64 y.amt) {x with id:=y.id,sel:=y.sel,sg:=y.sg,by_:=y.by_,amt:=y.amt} rfl;have h7:=iG h6 hk 7 (by decide) (.int .i64 y.num) {x with id:=y.id,sel:=y.sel,sg:=y.sg,by_:=y.by_,amt:=y.amt,num:=y.num} rfl;exact iG h7 hk 8 (by decide) (.int .i64 y.den) y rfl
theorem cL{w:World}{base b c k:Nat}{m:List Ofr}(h:w.ownsRow base 67 9 (.slice (some ⟨b,0,none⟩) m.length c) m.length (flR ofR m))(hk:k<m.length):w.cell? ⟨b,k*9,none⟩=some (.int .i64 m[k].id)∧w.cell? ⟨b,k*9+1,none⟩=some (.int .i64 m[k].sel)∧w.cell? ⟨b,k*9+2,none⟩=some (.string (bL m[k].sg.code))∧w.cell? ⟨b,k*9+3,none⟩=some (.int .i64 m[k].sg.iss)∧w.cell? ⟨b,k*9+4,none⟩=some (.string (bL m[k].by_.code))∧w.cell? ⟨b,k*9+5,none⟩=some (.int .i64 m[k].by_.iss)∧w.cell? ⟨b,k*9+6,none⟩=some (.int .i64 m[k].amt)∧w.cell? ⟨b,k*9+7,none⟩=some (.int .i64 m[k].num)∧w.cell? ⟨b,k*9+8,none⟩=some (.int .i64 m[k].den):=by
 obtain⟨h1,h2,h3,h4,_⟩:=aY h;exact⟨h2 _ _ ((bU ofR m k hk 0 (by decide)).trans rfl),h2 _ _ ((bU ofR m k hk 1 (by decide)).trans rfl),h2 _ _ ((bU ofR m k hk 2 (by decide)).trans rfl),h2 _ _ ((bU ofR m k hk 3 (by decide)).trans rfl),h2 _ _ ((bU ofR m k hk 4 (by decide)).trans rfl),h2 _ _ ((bU ofR m k hk 5 (by decide)).trans rfl),h2 _ _ ((bU ofR m k hk 6 (by decide)).trans rfl),h2 _ _ ((bU ofR m k hk 7 (by decide)).trans rfl),h2 _ _ ((bU ofR m k hk 8 (by decide)).trans rfl)⟩
theorem tW{P:Program}(w:World)(t e ty:TypeId)(z:Value)(n:Nat)(ht:P.underlying t=some (.slice e))(hv:∀w,(zeroValue e).run P w= .ok z w)(h1:∀v ∈ z.cells.toList,v.oneCell'=true)(b o c:Nat)(hn:0<n)
  (hc:∀j,j<n*z.cells.size→(w.cell? ⟨b,o+j,none⟩).isSome=true) (hf:∀j,j<n*z.cells.size→w.frozen? ⟨b,o+j,none⟩=false):
  (Builtin.clear_ #[t] ty #[.slice (some ⟨b,o,none⟩) n c]).run P w= .ok (.tuple #[]) (w.setCells b o (Builtin.zeroCells z.cells n).toList):=by
 have hl:(Builtin.zeroCells z.cells n).toList.length=n*z.cells.size:=by simp[Builtin.zeroCells]
 have hst:=run_storeCells_cells (P:=P) b o (Builtin.zeroCells z.cells n).toList 0 w (by rw[hl];simpa using hc) (by rw[hl];simpa using hf) (fun v hv=>by
  simp only[Builtin.zeroCells,Array.toList_map,List.mem_map,Array.toList_range,List.mem_range] at hv;obtain⟨i,hi,rfl⟩:=hv;rcases Nat.eq_zero_or_pos z.cells.size with h0|h0
  ·rw[h0] at hi;simp at hi
  rw[getElem!_pos z.cells _ (Nat.mod_lt _ h0)];exact h1 _ (by simp))
 simp only[Nat.add_zero] at hst;obtain⟨m,rfl⟩:∃m,n=m+1:=⟨n - 1,by omega⟩;simp[Builtin.clear_,run_underlying ht,hv,hst]
theorem Ez{k:Nat}:((k:Int) == -1)=false:=beq_eq_false_iff_ne.2 (by omega)
theorem xV(p:Ofr→Bool)(f:FuncId)(caps:Array Value)(hrun:∀args w,Sem.run Tryz.prog (callFunc f args) w= .ok (.enter f args) w)(l:List Ofr)(A:Option Addr)(c base:Nat)(w:World)(hl:l.length≤1000)(own:w.ownsRow base 67 9 (.slice A l.length c) l.length (flR ofR l))(hok:∀x ∈ l,ofR.ok x)
  (hf:∀y ∈ l,∀W r,Fr r w W→(∀g,r=some g→base≤g)→Calls Tryz.prog f (#[.agg (ofR.enc y).toArray]++caps) W fun e W'=>e= .returned (.bool (p y))∧Fr none W W'):
  Calls Tryz.prog 209 #[.slice A l.length c,.func (.func f) #[] caps] w fun e w'=>∃A' c',e= .returned (.slice A' (l.filter fun x=> !p x).length c')∧w'.ownsRow base 67 9 (.slice A' (l.filter fun x=> !p x).length c') (l.filter fun x=> !p x).length (flR ofR (l.filter fun x=> !p x))∧∃r,Fr r w w'∧∀g,r=some g→base≤g:=by
 have HO:=sH own;have HF:=sH hf;have HS:Hid (SlR ofR w none (.slice A l.length c) l):=SlR.of_own own (by simp) hok;obtain⟨hcn,hcm⟩:=jA own;clear own hf;go_enter Tryz.func209,Tryz.ntmps209;go_wp2_with fail;refine(yU p f caps hrun l _ w HS.out (fun y hy W FW=>HF.out y hy W none FW (by simp))).mono ?_;rintro e w1 ⟨rfl,F1⟩;clear HS;rcases fO (p:=p) (l:=l) with⟨hi,hp⟩|⟨k,hk,hi,hp⟩
 ·have hfl:(l.filter fun x=> !p x)=l:=List.filter_eq_self.2 fun x hx=>by
   have:=List.findIdx?_eq_none_iff.1 hi x hx;simp[this]
  have HFL:=sH hfl;rw[hp];clear hi hfl hp;go_wp2;go_ret;exact⟨A,c,by rw[HFL.out]<;>rfl,by rw[HFL.out];exact aR HO.out F1 (by simp),none,F1,by simp⟩
 obtain⟨g,rfl⟩:=dZ HO.out (by omega);obtain⟨_,h1,h2⟩:=List.findIdx?_eq_some_iff_getElem.1 hi;have HI:Hid (lJ (fun x=> !p x) l k (k+1) l):=lJ.start hk (fun j hj hjk=>by have:=h2 j hjk;simpa using this) (by simp[h1]);have hgb:=(bR HO.out rfl).1;have HO1:=sH (aR HO.out F1 (by simp));have hne:=@Ez k;have hk6:k≤1000:=by omega
 have hw1:wrap64 ((k:Int)+1)=(k:Int)+1:=tT hk6;rw[hp];clear hi hp h1 h2 HO;have HF1:=sH F1;clear F1;go_wp2_with fail;clear hw1;go_loopw [5,6] (fun s5 s6 wr=>∃(i j:Nat) (d:List Ofr),s5= .int .i64 (i:Int)∧s6= .int .i64 (j:Int)∧i<j∧j≤l.length∧Hid (lJ (fun x=> !p x) l i j d)∧Hid (wr.ownsRow base 67 9 (.slice (some ⟨g,0,none⟩) l.length c) l.length (flR ofR d))∧Fr (some g) w1 wr) (fun _ s6 _=>l.length - (intOf s6).toNat)
 case atStart=>exact⟨k,k+1,l,rfl,by go_num,by omega,by omega,HI,HO1,Fr.refl _ _⟩
 case round=>
  clear HO1 HI hne;obtain⟨i,j,d,rfl,rfl,hij,hj,HI,HR,F⟩:=hrel;have hdl:=HI.out.len;by_cases hlt:j<l.length
  ·obtain⟨hjd,hdj⟩:=HI.out.at_ hlt;have HRD:Hid (wr.ownsRow base 67 9 (.slice (some ⟨g,0,none⟩) d.length c) d.length (flR ofR d)):=by unfold Hid;rw[hdl];exact HR.out
   have HFk:=HF.out l[j] (List.getElem_mem hlt);obtain⟨e0,e1,e2,e3,e4,e5,e6,e7,e8⟩:=cL HRD.out hjd;rw[hdj] at e0 e1 e2 e3 e4 e5 e6 e7 e8;obtain⟨y,hy⟩:∃y,y=l[j]:=⟨_,rfl⟩;rw[←hy] at e0 e1 e2 e3 e4 e5 e6 e7 e8 HFk;have HY:=sH hy;have hgw:=(bR HRD.out rfl).2;have HDL:=sH hdl;clear hy hdj hjd hdl;go_upto_region 8 with(fail)
   generalize hW:wr.alloc _=wa;have Fa:Fr none wr wa:=hW▸(Fr.refl none wr).alloc _;have b7:OfB wa wr.heap.size y:=by rw[←hW];exact aD _ _
   clear hW e0 e1 e2 e3 e4 e5 e6 e7 e8;obtain⟨n0,n1,n2,n3,n4,n5,n6,n7,n8⟩:=b7.cells;have l7:=aC b7;have Fw:Fr (some g) w wa:=(HF1.out.mono.same F).same Fa.mono;go_wp2_with fail;refine(HFk wa (some g) Fw (fun x e=>by injection e with e;omega)).mono ?_;rintro e w2 ⟨rfl,F2⟩;clear HFk n0 n1 n2 n3 n4 n5 n6 n7 n8 l7 Fw;have b7:=b7.fr F2;have l7:=aC b7;obtain⟨n0,n1,n2,n3,n4,n5,n6,n7,n8⟩:=b7.cells;have R2:=sH (aR HRD.out (Fa.pure F2) (by simp));have F02:=(F.same Fa.mono).same F2.mono;clear HRD;have hj6:j≤1000:=by omega
   cases hv:p y with
   |true=>
    have HV:=sH hv;clear hv;go_wp2_with fail;go_roundw
    case rel=>exact⟨i,j+1,d,rfl,by go_num,by omega,by omega,by rw[HY.out] at HV;exact HI.out.skip hlt (by simp[HV.out]),by have:=R2.out;rwa [HDL.out] at this,F02⟩
    case measure=>simp[intOf];omega
   |false=>
    have HV:=sH hv;clear hv;have hid:i<d.length:=by have:=HDL.out;omega
    have hil:(i:Int)<(l.length:Int):=by omega
    obtain⟨e0,e1,e2,e3,e4,e5,e6,e7,e8⟩:=cL R2.out hid;have f0:=(aY R2.out).1 (i*9);have f1:=(aY R2.out).1 (i*9+1);have f2:=(aY R2.out).1 (i*9+2);have f3:=(aY R2.out).1 (i*9+3);have f4:=(aY R2.out).1 (i*9+4);have f5:=(aY R2.out).1 (i*9+5);have f6:=(aY R2.out).1 (i*9+6);have f7:=(aY R2.out).1 (i*9+7);have f8:=(aY R2.out).1 (i*9+8);have HW9:=sH (Ey y R2.out hid);have hi6:i≤1000:=by omega
    generalize d[i]=x at*
    go_wp2_with fail;go_roundw
    case rel=>
     have hw9:=HW9.out;exact⟨i+1,j+1,d.set i y,by go_num,by go_num,by omega,by omega,by rw[HY.out];rw[HY.out] at HV;exact HI.out.keep hlt (by simp[HV.out]),by have:=hw9.1;rwa [HDL.out] at this,F02.same hw9.2⟩
    case measure=>simp[intOf];omega
  obtain rfl:j=l.length:=by omega
  obtain⟨hd1,hd2⟩:=HI.out.done;have hw:=HR.out;obtain⟨ti,z,hu,hti,hzz,hsize,hby,hzs,_⟩:=Et;have hz0:z= .agg #[.int .i64 0,.int .i64 0,.string ⟨#[]⟩,.int .i64 0,.string ⟨#[]⟩,.int .i64 0,.int .i64 0,.int .i64 0,.int .i64 0]:=by
   have e:(Tryz.prog.info? 67).map (·.zero)=some (some (.agg #[.int .i64 0,.int .i64 0,.string ⟨#[]⟩,.int .i64 0,.string ⟨#[]⟩,.int .i64 0,.int .i64 0,.int .i64 0,.int .i64 0])):=by kernel_rfl
   rw[hti] at e;simp only[Option.map_some,hzz,Option.some.injEq] at e;exact e
  have hz1:∀v ∈ z.cells.toList,v.oneCell'=true:=by
   rw[hz0];exact List.all_eq_true.1 (by kernel_rfl:(Value.cells (.agg #[.int .i64 0,.int .i64 0,.string ⟨#[]⟩,.int .i64 0,.string ⟨#[]⟩,.int .i64 0,.int .i64 0,.int .i64 0,.int .i64 0])).toList.all (fun v=>v.oneCell')=true)
  have hzv:∀w,(zeroValue 67).run Tryz.prog w= .ok z w:=fun w=>by simp[zeroValue,typeInfo,hti,hzz]
  have hlc:l.length*9≤c*9:=Nat.mul_le_mul_right _ hcn;have hcl:=fun ty=>tW (P:=Tryz.prog) wr 27 67 ty z (l.length - i) hu hzv hz1 g (i*9) (c - i) (by omega) (fun q hq=>dF hw _ (by rw[hzs] at hq;omega)) (fun q _=>(aY hw).1 _);have hdt:(flR ofR d).take (i*9)=flR ofR (l.filter fun x=> !p x):=by rw[←hd1];exact gH ofR d i
  have own1:=iV (Builtin.zeroCells z.cells (l.length - i)).toList (i*9) wr (kE hw i (by omega)) (Nat.le_refl _);rw[hdt] at own1;have F3:Fr (some g) wr (wr.setCells g (i*9) (Builtin.zeroCells z.cells (l.length - i)).toList):=Fr.sets _ _ _;have HCL:=sH hcl;have HO1:=sH own1;have HD2:=sH hd2;clear own1 hcl hdt hd1 hd2 hz0 hz1 hzv hzz hzs hw hdl;generalize(Builtin.zeroCells z.cells (l.length - i)).toList=ZC at*
  have hcl:=HCL.out;clear HCL;go_wp2;go_ret;refine⟨some ⟨g,0,none⟩,c,by rw[HD2.out]<;>rfl,by rw[HD2.out];exact HO1.out,some g,(HF1.out.mono.same F).same F3,fun x e=>by injection e with e;omega⟩
theorem Cx(y:Ofr)(a b:Ast)(b1 b2:Nat)(w:World)(ha:dK w b1 a)(hb:dK w b2 b):Calls Tryz.prog 210 #[.agg #[.int .i64 y.id,.int .i64 y.sel,.string (bL y.sg.code),.int .i64 y.sg.iss,.string (bL y.by_.code),.int .i64 y.by_.iss,.int .i64 y.amt,.int .i64 y.num,.int .i64 y.den],.pointer (some ⟨b1,0,none⟩),.pointer (some ⟨b2,0,none⟩)] w fun e w'=>e= .returned (.bool (!lF a b y))∧Fr none w w':=by
 obtain⟨V,hV⟩:∃V,V= !lF a b y:=⟨_,rfl⟩;rw[←hV];unfold lF at hV;have HV:=sH hV;clear hV;go_enter Tryz.func210,Tryz.ntmps210;go_upto_region 1 with(fail)
 generalize hW:w.alloc _=w1;have F1:Fr none w w1:=hW▸(Fr.refl none w).alloc _;have b4:OfB w1 w.heap.size y:=by rw[←hW];exact aD _ _
 obtain⟨n0,n1,n2,n3,n4,n5,n6,n7,n8⟩:=b4.cells;obtain⟨k0,k1⟩:=(ha.fr F1).cells;obtain⟨k2,k3⟩:=(hb.fr F1).cells;have l4:=aC b4;clear hW ha hb;by_cases h1:y.sg.code=a.code
 ·have e1:(bL y.sg.code).toList=(bL a.code).toList:=by rw[h1]
  by_cases h2:y.sg.iss=a.iss
  ·skip
   by_cases g1:y.by_.code=b.code
   ·have e3:(bL y.by_.code).toList=(bL b.code).toList:=by rw[g1]
    by_cases g2:y.by_.iss=b.iss
    ·have HX:Hid (V=false):=by unfold Hid;rw[HV.out,fD,fD];simp[h1,h2,g1,g2]
     clear g1 HV;go_wp2;go_ret;exact⟨aJ (by rw[HX.out]<;>rfl),F1⟩
    have HX:Hid (V=true):=by unfold Hid;rw[HV.out,fD,fD];simp[h1,h2,g1,g2]
    clear g1 HV;go_wp2;go_ret;exact⟨aJ (by rw[HX.out]<;>rfl),F1⟩
   have e3:¬(bL y.by_.code).toList=(bL b.code).toList:=fun e=>g1 (by rw[bQ,bQ] at e;exact e);have HX:Hid (V=true):=by unfold Hid;rw[HV.out,fD,fD];simp[h1,h2,g1]
   clear g1 HV;go_wp2;go_ret;exact⟨aJ (by rw[HX.out]<;>rfl),F1⟩
  have HX:Hid (V=true):=by unfold Hid;rw[HV.out,fD,fD];simp[h1,h2]
  clear h1 HV;go_wp2;go_ret;exact⟨aJ (by rw[HX.out]<;>rfl),F1⟩
 have e1:¬(bL y.sg.code).toList=(bL a.code).toList:=fun e=>h1 (by rw[bQ,bQ] at e;exact e);have HX:Hid (V=true):=by unfold Hid;rw[HV.out,fD,fD];simp[h1]
 clear h1 HV;go_wp2;go_ret;exact⟨aJ (by rw[HX.out]<;>rfl),F1⟩
theorem wE:∀args w,Sem.run Tryz.prog (callFunc 210 args) w= .ok (.enter 210 args) w:=fun _ _=>by kernel_rfl
structure FrS (S:Nat→Prop) (w w':World):Prop where
 os:w'.os=w.os
 tape:w'.tape=w.tape
 output:w'.output=w.output
 size:w.heap.size≤w'.heap.size
 block:∀k,k<w.heap.size→¬S k→w'.heap[k]?=w.heap[k]?
theorem FrS.of{S:Nat→Prop}{w w':World}{r:Option Nat}(f:Fr r w w')(h:∀k,r=some k→k<w.heap.size→S k):FrS S w w':=by
 obtain⟨h1,h2,h3,h4,h5⟩:=f;exact⟨h1,h2,h3,h4,fun k hk hs=>h5 k hk fun e=>hs (h k e.symm hk)⟩
theorem FrS.trans{S S':Nat→Prop}{a b c:World}(h:FrS S a b)(k:FrS S' b c)(hs:∀x,x<a.heap.size→S' x→S x):FrS S a c:=
 ⟨k.os.trans h.os,k.tape.trans h.tape,k.output.trans h.output,Nat.le_trans h.size k.size,fun x hx hn=>(k.block x (Nat.lt_of_lt_of_le hx h.size) (fun e=>hn (hs x hx e))).trans (h.block x hx hn)⟩
theorem FrS.add{S:Nat→Prop}{a b c:World}{r:Option Nat}(h:FrS S a b)(f:Fr r b c)(hs:∀x,r=some x→x<a.heap.size→S x):FrS S a c:=
 h.trans (FrS.of (S:=fun x=>r=some x) f fun _ e _=>e) fun x hx e=>hs x e hx
theorem FrS.fr{S:Nat→Prop}{w w':World}(h:FrS S w w'){r:Option Nat}(hs:∀k,k<w.heap.size→S k→r=some k):Fr r w w':=⟨h.os,h.tape,h.output,h.size,fun k hk hn=>h.block k hk fun e=>hn (hs k hk e).symm⟩
theorem FrS.own{S:Nat→Prop}{a b c:World}(h:Fr none a b)(k:FrS S b c)(hs:∀x,x<a.heap.size→¬S x:=by simp):Fr none a c:=
 FrS.fr (S:=fun _=>False) ((FrS.of h (fun _ e=>by cases e)).trans k fun x hx e=>hs x hx e) (fun _ _ e=>e.elim)
theorem gB{S:Nat→Prop}{w w':World}{g:Nat}{o:Obj}(h:w.heap[g]?=some o)(f:FrS S w w')(hs:¬S g):w'.heap[g]?=some o:=by rw[f.block g (aC h) hs];exact h
def kG(g:Lgr):Prop:=(∀x ∈ g.accs,aP.ok x)∧(∀x ∈ g.lines,lnR.ok x)∧(∀x ∈ g.offers,ofR.ok x)∧Wi g.num∧Wi g.nid∧Wi g.fees∧g.link<18446744073709551616
theorem OwG.lgs{w:World}{base:Nat}{g:Lgr}{va vl vo:Value}(h:OwG w base g va vl vo)(k:kG g):LgS w none g va vl vo:=
 ⟨SlR.of_own h.a (by simp) k.1,SlR.of_own h.l (by simp) k.2.1,SlR.of_own h.o (by simp) k.2.2.1,k.2.2.2⟩
theorem LgS.ok{w:World}{r:Option Nat}{g:Lgr}{va vl vo:Value}(h:LgS w r g va vl vo):kG g:=⟨h.1.2,h.2.1.2,h.2.2.1.2,h.2.2.2⟩
theorem tX{a:Ast}(h:aV a=true):Wi a.iss:=by
 unfold aV at h;simp only[Bool.or_eq_true,decide_eq_true_eq,Bool.and_eq_true] at h;rcases h with rfl|h
 ·exact⟨by decide,by decide⟩
 exact⟨by omega,by omega⟩
theorem EA{n d:Int}(h:cI n d=(n,d))(h0:n≠0):Wi n∧Wi d:=by
 have hp:bX n d=true:=by
  cases e:bX n d with
  |true=>rfl
  |false=>
   unfold cI at h;rw[if_neg (by rw[e];simp)] at h;injection h with h _
   exact absurd h.symm h0
 obtain⟨a,b,c,d⟩:=gU.1 hp;exact⟨⟨by omega,by omega⟩,⟨by omega,by omega⟩⟩
theorem EB{g:Lgr}{o:Ofr}(hn:g.nid≤1000000)(hs:Wi o.sel)(h:jM g o=true):ofR.ok o:=by
 obtain⟨o1,o2,o3,o4,o5,o6,o7,o8⟩:=eC.1 h;obtain⟨r1,r2⟩:=EA o8.1 o8.2;exact⟨⟨by omega,by omega⟩,hs,tX o3,tX o4,⟨by omega,by omega⟩,r1,r2⟩
theorem FP{l:List aQ}(h:cC l=0){id:Int}(k:(aK l id).isSome=true):Wi id:=by
 obtain⟨x,hx⟩:=Option.isSome_iff_exists.1 k;have h1:isA id x=true:=List.find?_some hx;have h2:=cQ.1 ((bI.1 h).2.1 x (List.mem_of_find?_eq_some hx));unfold isA at h1;simp only[decide_eq_true_eq] at h1;exact⟨by omega,by omega⟩
theorem jG{g:Lgr}(h:aH g=0)(hl:g.link<18446744073709551616):kG g:=by
 obtain⟨g1,g2,g3,g4,g5⟩:=aS.1 h;obtain⟨l1,l2,l3,l4⟩:=bJ.1 g1;obtain⟨a1,a2,a3⟩:=bI.1 l1;unfold dI at g3;simp only[Bool.and_eq_true,decide_eq_true_eq,dE] at g3;refine⟨fun x hx=>?_,fun x hx=>?_,fun x hx=>?_,⟨by omega,by omega⟩,⟨by omega,by omega⟩,⟨by omega,by omega⟩,hl⟩
 ·have:=cQ.1 (a2 x hx);exact⟨⟨by omega,by omega⟩,⟨by omega,by omega⟩,by omega,by omega⟩
 ·have:=l3 x hx;unfold kX at this;simp only[Bool.and_eq_true,decide_eq_true_eq,dE] at this;obtain⟨q1,q2,q3,q4,q5,q6⟩:=this;exact⟨FP l1 q1,tX q2,⟨by omega,by omega⟩,by omega,by omega⟩
 exact EB (by omega) (FP l1 (eC.1 (g4 x hx)).1) (g4 x hx)
theorem kG.setO{g:Lgr}(h:kG g){k:Nat}{o:Ofr}(ho:ofR.ok o):kG (setO g k o):=⟨h.1,h.2.1,fun x hx=>by
 rcases List.mem_or_eq_of_mem_set hx with hx|rfl
 ·exact h.2.2.1 x hx
 exact ho,h.2.2.2⟩
def DlB(w:World)(b:Nat)(d:dD)(va vl vo:Value):Prop:=w.heap[b]?=some (.cells #[.int .i64 d.g.num,va,vl,vo,.int .i64 d.g.nid,.int .i64 d.g.fees,.int .u64 (d.g.link:Int),.int .i64 d.want,.int .i64 d.left] 221 (0,0))
theorem DlB.fr{w w':World}{b:Nat}{d:dD}{va vl vo:Value}{r:Option Nat}(h:DlB w b d va vl vo)(f:Fr r w w')(hr:r≠some b:=by simp):DlB w' b d va vl vo:=aF h f hr
theorem DlB.cells{w:World}{b:Nat}{d:dD}{va vl vo:Value}(h:DlB w b d va vl vo):w.cell? ⟨b,0,none⟩=some (.int .i64 d.g.num)∧w.cell? ⟨b,1,none⟩=some va∧w.cell? ⟨b,2,none⟩=some vl∧w.cell? ⟨b,3,none⟩=some vo∧w.cell? ⟨b,4,none⟩=some (.int .i64 d.g.nid)∧w.cell? ⟨b,5,none⟩=some (.int .i64 d.g.fees)∧w.cell? ⟨b,6,none⟩=some (.int .u64 (d.g.link:Int))∧w.cell? ⟨b,7,none⟩=some (.int .i64 d.want)∧w.cell? ⟨b,8,none⟩=some (.int .i64 d.left):=by
 refine⟨?_,?_,?_,?_,?_,?_,?_,?_,?_⟩<;>(rw[aA h];rfl)
theorem DlB.set7{w:World}{b:Nat}{d:dD}{g:Lgr}{va0 vl0 vo0 va vl vo:Value}(h:DlB w b d va0 vl0 vo0):
  Fr (some b) w (((((((w.setCell ⟨b,0,none⟩ (.int .i64 g.num)).setCell ⟨b,1,none⟩ va).setCell ⟨b,2,none⟩ vl).setCell ⟨b,3,none⟩ vo).setCell ⟨b,4,none⟩ (.int .i64 g.nid)).setCell ⟨b,5,none⟩ (.int .i64 g.fees)).setCell ⟨b,6,none⟩ (.int .u64 (g.link:Int)))∧
  DlB (((((((w.setCell ⟨b,0,none⟩ (.int .i64 g.num)).setCell ⟨b,1,none⟩ va).setCell ⟨b,2,none⟩ vl).setCell ⟨b,3,none⟩ vo).setCell ⟨b,4,none⟩ (.int .i64 g.nid)).setCell ⟨b,5,none⟩ (.int .i64 g.fees)).setCell ⟨b,6,none⟩ (.int .u64 (g.link:Int))) b ⟨g,d.want,d.left⟩ va vl vo:=by
 refine⟨((((((Fr.set1 w ⟨b,0,none⟩ _).same (Fr.set1 _ ⟨b,1,none⟩ _)).same (Fr.set1 _ ⟨b,2,none⟩ _)).same (Fr.set1 _ ⟨b,3,none⟩ _)).same (Fr.set1 _ ⟨b,4,none⟩ _)).same (Fr.set1 _ ⟨b,5,none⟩ _)).same (Fr.set1 _ ⟨b,6,none⟩ _),?_⟩;unfold DlB at h ⊢;have h7:=aI (aI (aI (aI (aI (aI (aI h 0 (.int .i64 g.num)) 1 va) 2 vl) 3 vo) 4 (.int .i64 g.nid)) 5 (.int .i64 g.fees)) 6 (.int .u64 (g.link:Int));simp only[List.setIfInBounds_toArray,List.set_cons_zero,List.set_cons_succ] at h7;exact h7
theorem DlB.set78{w:World}{b:Nat}{d:dD}{va vl vo:Value}(x y:Int)(h:DlB w b d va vl vo):DlB ((w.setCell ⟨b,7,none⟩ (.int .i64 x)).setCell ⟨b,8,none⟩ (.int .i64 y)) b ⟨d.g,x,y⟩ va vl vo∧DlB ((w.setCell ⟨b,8,none⟩ (.int .i64 y)).setCell ⟨b,7,none⟩ (.int .i64 x)) b ⟨d.g,x,y⟩ va vl vo:=by
 unfold DlB at h ⊢;constructor
 ·have h2:=aI (aI h 7 (.int .i64 x)) 8 (.int .i64 y);simp only[List.setIfInBounds_toArray,List.set_cons_zero,List.set_cons_succ] at h2;exact h2
 have h2:=aI (aI h 8 (.int .i64 y)) 7 (.int .i64 x);simp only[List.setIfInBounds_toArray,List.set_cons_zero,List.set_cons_succ] at h2;exact h2
theorem DlB.set3{w:World}{b:Nat}{d:dD}{va vl vo:Value}(v:Value)(g':Lgr)(hg:g'.num=d.g.num∧g'.nid=d.g.nid∧g'.fees=d.g.fees∧g'.link=d.g.link)(h:DlB w b d va vl vo):DlB (w.setCell ⟨b,3,none⟩ v) b ⟨g',d.want,d.left⟩ va vl v:=by
 unfold DlB at h ⊢;have h2:=aI h 3 v;simp only[List.setIfInBounds_toArray,List.set_cons_zero,List.set_cons_succ] at h2;rw[hg.1,hg.2.1,hg.2.2.1,hg.2.2.2];exact h2
end Go.Proofs.YthaggndnfamhjaaGreatDoor
namespace Go.Proofs.YthaggndnfamhjaaGreatDoor
open Go.RowKit Go.Sort
def pl(a b:Ofr):Prop:=a.num*b.den≤b.num*a.den
theorem hI{a b c:Ofr}(ha:1≤a.den)(hb:1≤b.den)(hc:1≤c.den)(h1:pl a b)(h2:pl b c):pl a c:=by
 unfold pl at*
 have e1:=Int.mul_le_mul_of_nonneg_right h1 (show 0≤c.den by omega);have e2:=Int.mul_le_mul_of_nonneg_right h2 (show 0≤a.den by omega);have e3:a.num*c.den*b.den≤c.num*a.den*b.den:=by
  have q1:a.num*b.den*c.den=a.num*c.den*b.den:=by rw[Int.mul_assoc,Int.mul_comm b.den,←Int.mul_assoc]
  have q2:b.num*a.den*c.den=b.num*c.den*a.den:=by rw[Int.mul_assoc,Int.mul_comm a.den,←Int.mul_assoc]
  have q3:c.num*b.den*a.den=c.num*a.den*b.den:=by rw[Int.mul_assoc,Int.mul_comm b.den,←Int.mul_assoc]
  rw[q1,q2] at e1;rw[q3] at e2;exact Int.le_trans e1 e2
 exact Int.le_of_mul_le_mul_right e3 (by omega)
theorem Gv(a b:Ofr):pl a b∨pl b a:=Int.le_total _ _
theorem EC{a b:Ofr}(ha:bX a.num a.den=true)(hb:bX b.num b.den=true):btr a b<0↔ ¬pl b a∨(pl a b∧a.id<b.id):=by
 unfold btr vQ pl;rw[if_pos ⟨ha,hb⟩];simp only[orL,fT];by_cases h1:a.num*b.den<b.num*a.den
 ·simp[h1]<;>omega
 by_cases h2:b.num*a.den<a.num*b.den
 ·simp[h1,h2]<;>omega
 by_cases h3:a.id<b.id
 ·simp[h1,h2,h3]<;>omega
 by_cases h4:b.id<a.id
 ·simp[h1,h2,h3,h4]<;>omega
 simp[h1,h2,h3,h4]<;>omega
theorem xW{a b:World}(h1:a.heap=b.heap)(h2:a.tape=b.tape)(h3:a.drawn=b.drawn)(h4:a.os=b.os)(h5:a.output=b.output):a=b:=by
 cases a;cases b;simp_all
theorem Cy{w w':World}(F:Fr none w w')(hd:w.drawn≤w'.drawn):∃q os,w'=Sort.grow (w.drewN q) os:=by
 have f1:=World.grownBy.tape F;have f2:=World.grownBy.os F;have f3:=World.grownBy.output F;refine⟨w'.drawn - w.drawn,w'.heap.extract w.heap.size w'.heap.size,xW ?_ f1 ?_ f2 f3⟩
 ·show w'.heap=w.heap++w'.heap.extract w.heap.size w'.heap.size;have hz:=F.size;refine Array.ext_getElem? (fun k=>?_);by_cases hk:k<w.heap.size
  ·rw[Array.getElem?_append_left hk];exact F.block k hk (by simp)
  rw[Array.getElem?_append_right (by omega),Array.getElem?_extract];by_cases h2:k<w'.heap.size
  ·rw[if_pos (by omega)];congr 1;omega
  rw[if_neg (by omega)];exact Array.getElem?_eq_none (by omega)
 show w'.drawn=w.drawn+(w'.drawn - w.drawn);omega
theorem Cz{α:Type}[Inhabited α](enc:α→List Value)(k:Nat)(w:World)(g m:Nat)(dk:Array α)(os:Array Obj):Fr (some g) w (sortWorldK enc k w g 0 m dk os):=by
 refine⟨rfl,rfl,rfl,size_sortWorldK_c enc k w g 0 m dk os,fun i hi hne=>?_⟩;unfold sortWorldK putRowK;rw[heap_grow_old _ _ (by simpa[Sort.ahead,putRow,mapBlock] using hi)];have:g≠i:=fun e=>hne (by rw[e]);simp[putRow,mapBlock,Sort.ahead,Array.getElem?_modify,this]
abbrev OIn(L:List Ofr):Type:={o:Ofr//o ∈ L}
def AN(L:List Ofr)(x:OIn L):List Value:=ofR.enc x.1
def cfI(L:List Ofr)(x y:OIn L):Int:=btr x.1 y.1
theorem ltI{L:List Ofr}(hL:∀o ∈ L,bX o.num o.den=true)(x y:OIn L):ltOf (cfI L) x y=true↔ ¬pl y.1 x.1∨(pl x.1 y.1∧x.1.id<y.1.id):=by
 unfold ltOf;rw[decide_eq_true_iff];exact EC (hL _ x.2) (hL _ y.2)
theorem Gw{L:List Ofr}(hL:∀o ∈ L,bX o.num o.den=true)(x y:OIn L):ltOf (cfI L) x y=false↔pl y.1 x.1∧(pl x.1 y.1→y.1.id≤x.1.id):=by
 rw[←Bool.not_eq_true,ltI hL];constructor
 ·intro h;rw[not_or,Classical.not_not] at h;exact⟨h.1,fun k=>Int.not_lt.1 fun e=>h.2 ⟨k,e⟩⟩
 rintro⟨h1,h2⟩ (h|h)
 ·exact h h1
 have:=h2 h.1;omega
theorem Iz{L:List Ofr}(hL:∀o ∈ L,bX o.num o.den=true):Sort.SWO (ltOf (cfI L)) where
 irrefl x:=by rw[Gw hL];exact⟨Int.le_refl _,fun _=>Int.le_refl _⟩
 trans x y z h1 h2:=by
  have d1:=(gU.1 (hL _ x.2)).2.2.1;have d2:=(gU.1 (hL _ y.2)).2.2.1;have d3:=(gU.1 (hL _ z.2)).2.2.1;rw[ltI hL] at*
  rcases h1 with h1|⟨h1,i1⟩
  ·rcases h2 with h2|⟨h2,i2⟩
   ·exact .inl fun e=>h1 (hI d2 d3 d1 ((Gv y.1 z.1).resolve_right h2) e)
   exact .inl fun e=>h1 (hI d2 d3 d1 h2 e)
  rcases h2 with h2|⟨h2,i2⟩
  ·exact .inl fun e=>h2 (hI d3 d1 d2 e h1)
  exact .inr ⟨hI d1 d2 d3 h1 h2,by omega⟩
 ntrans x y z h1 h2:=by
  have d1:=(gU.1 (hL _ x.2)).2.2.1;have d2:=(gU.1 (hL _ y.2)).2.2.1;have d3:=(gU.1 (hL _ z.2)).2.2.1;rw[Gw hL] at*
  obtain⟨a1,a2⟩:=h1;obtain⟨b1,b2⟩:=h2;exact⟨hI d3 d2 d1 b1 a1,fun k=>Int.le_trans (b2 (hI d2 d1 d3 a1 k)) (a2 (hI d1 d3 d2 k b1))⟩
theorem IA{L:List Ofr}(hL:∀o ∈ L,bX o.num o.den=true)(hid:∀a ∈ L,∀b ∈ L,a.id=b.id→a=b)(x y:OIn L)(h1:ltOf (cfI L) x y=false)(h2:ltOf (cfI L) y x=false):x=y:=by
 rw[Gw hL] at*
 have:=h1.2 h2.1;have:=h2.2 h1.1;exact Subtype.ext (hid _ x.2 _ y.2 (by omega))
theorem yZ(L:List Ofr)(d:List (OIn L))(hd:0<d.length):∀[Inhabited (OIn L)],∀j,j<d.length*9→(flR ofR (d.map (·.1)))[j]?=some ((flatK (AN L) 9 d.toArray)[j]!):=fun {_} j hj=>by
 have h1:j/9<d.length:=by omega
 have h2:=bU ofR (d.map (·.1)) (j/9) (by simpa using h1) (j%9) (Nat.mod_lt _ (by decide));have e:j/9*ofR.sz+j%9=j:=by show j/9*9+j%9=j;omega
 rw[e] at h2;rw[h2,get_flatK _ _ _ j (by simpa using hj)];have e3:d.toArray[j/9]! =d[j/9]:=by rw[getElem!_pos d.toArray (j/9) (by simpa using h1)];simp
 rw[e3,List.getElem_map];show(ofR.enc d[j/9].1)[j%9]?=some ((ofR.enc d[j/9].1)[j%9]!);have h4:j%9<(ofR.enc d[j/9].1).length:=by rw[ofR.len];exact Nat.mod_lt _ (by decide)
 rw[List.getElem?_eq_getElem h4,getElem!_pos (ofR.enc d[j/9].1) (j%9) h4]
structure BkR (w:World) (base:Nat) (A:Option Addr) (c:Nat) (l:List Ofr):Prop where
 le:l.length≤c
 cap:c≤9223372036854775807
 at_:0<l.length→∃b,A=some ⟨b,0,none⟩∧base≤b∧b<w.heap.size∧∀i u,(flR ofR l)[i]?=some u→w.cell? ⟨b,i,none⟩=some u
theorem AO{L:List Ofr}(hL:∀o ∈ L,bX o.num o.den=true)(hid:∀a ∈ L,∀b ∈ L,a.id=b.id→a=b)(A:Option Addr)(c base:Nat)(w:World)(hl:L.length≤1000)(own:w.ownsRow base 67 9 (.slice A L.length c) L.length (flR ofR L)):
  Calls Tryz.prog 211 #[.slice A L.length c,.func (.func 212) #[] #[]] w fun e w'=>e= .returned (.tuple #[])∧BkR w' base A c (L.mergeSort fun a b=> !decide (btr b a<0))∧∃r,Fr r w w'∧∀g,r=some g→base≤g:=by
 have hcap:=jA own;have hsl:(L.mergeSort fun a b=> !decide (btr b a<0)).length=L.length:=List.length_mergeSort _;cases hn:L with
 |nil=>
  subst hn;refine(Tryz.slices_SortFunc_none (α:=Nat) A c _ w).mono ?_;rintro e w' ⟨rfl,rfl⟩;exact⟨rfl,⟨by rw[hsl];exact hcap.1,hcap.2,fun h=>by simp at h⟩,none,Fr.refl _ _,by simp⟩
 |cons x0 r0=>
  rw[←hn];obtain⟨g,rfl⟩:=dZ own (by rw[hn];simp);have hgb:base≤g∧g<w.heap.size:=bR own rfl
  letI:Inhabited (OIn L):=⟨⟨x0,by rw[hn];exact List.mem_cons_self ..⟩⟩
  have hat:L.attach.map (fun x:OIn L=>x.1)=L:=List.attach_map_subtype_val L;have hln:(L.attach:List (OIn L)).length=L.length:=List.length_attach;have hH:HoldsK (AN L) 9 w g 0 (L.attach:List (OIn L)).toArray:=by
   intro j hj;have hj':j<(L.attach:List (OIn L)).length*9:=by simpa using hj
   have h1:=yZ L L.attach (by rw[hln,hn];simp) j hj';rw[hat] at h1;rw[Nat.zero_add];exact⟨(aY own).2.1 j _ h1,(aY own).1 j⟩
  have hcmp:CmpLays Tryz.prog 212 #[] (AN L) 9 (cfI L) g 0 (L.attach:List (OIn L)).toArray.size w:=by
   intro m os dk hs x y;show Calls Tryz.prog 212 #[.agg #[.int .i64 x.1.id,.int .i64 x.1.sel,.string (bL x.1.sg.code),.int .i64 x.1.sg.iss,.string (bL x.1.by_.code),.int .i64 x.1.by_.iss,.int .i64 x.1.amt,.int .i64 x.1.num,.int .i64 x.1.den],.agg #[.int .i64 y.1.id,.int .i64 y.1.sel,.string (bL y.1.sg.code),.int .i64 y.1.sg.iss,.string (bL y.1.by_.code),.int .i64 y.1.by_.iss,.int .i64 y.1.amt,.int .i64 y.1.num,.int .i64 y.1.den]] _ _;refine(Cw x.1 y.1 _).mono ?_;rintro e w' ⟨rfl,F',hd⟩;exact⟨rfl,Cy F' hd⟩
  have hsz:(L.attach:List (OIn L)).toArray.size=L.length:=by simp[hln]
  have h:=Tryz.slices_SortFunc_total 9 (fun _=>by kernel_rfl) (fun _=>by kernel_rfl) (AN L) (fun x=>ofR.len x.1) (fun x v hv=>ofR.one x.1 v hv) (cfI L) (Iz hL) 212 #[] g 0 c (L.attach:List (OIn L)).toArray w (fun _ _=>by kernel_rfl) hcmp hH hgb.2 (by rw[hsz];omega) (IA hL hid);rw[hsz] at h;refine h.mono ?_;rintro e w' ⟨rfl,n,os,hw⟩;have hmap:((L.attach:List (OIn L)).mergeSort fun x y=> !(ltOf (cfI L)) y x).map (fun x:OIn L=>x.1)=L.mergeSort fun a b=> !decide (btr b a<0):=by
   have:=List.map_mergeSort (r:=fun x y=> !(ltOf (cfI L)) y x) (s:=fun a b:Ofr=> !decide (btr b a<0)) (f:=fun x:OIn L=>x.1) (l:=L.attach) (fun a _ b _=>rfl);rw[this];exact congrArg (List.mergeSort · fun a b=> !decide (btr b a<0)) hat
  have F:=Cz (AN L) 9 w g n ((L.attach:List (OIn L)).mergeSort fun x y=> !(ltOf (cfI L)) y x).toArray os;have hln2:((L.attach:List (OIn L)).mergeSort fun x y=> !(ltOf (cfI L)) y x).length=L.length:=by rw[List.length_mergeSort,hln]
  have hK:=holdsK_sortWorldK_c (AN L) 9 w g 0 (L.attach:List (OIn L)).toArray ((L.attach:List (OIn L)).mergeSort fun x y=> !(ltOf (cfI L)) y x).toArray n os hH hgb.2 (by simp[hln2,hln]);rw[show(L.attach:List (OIn L)).toArray.toList=L.attach from rfl] at hw;rw[←hw] at F hK;refine⟨rfl,⟨by rw[hsl];exact hcap.1,hcap.2,fun _=>⟨g,rfl,hgb.1,by have:=F.size;omega,fun i u hu=>?_⟩⟩,some g,F,fun x hx=>by injection hx with hx;omega⟩;have hi:i<L.length*9:=by
   have:=(List.getElem?_eq_some_iff.1 hu).1;rw[dQ,hsl] at this;exact this
  have h1:=yZ L ((L.attach:List (OIn L)).mergeSort fun x y=> !(ltOf (cfI L)) y x) (by rw[hln2,hn];simp) i (by rw[hln2];exact hi);rw[hmap,hu] at h1;have h2:=(hK i (by simp[hln2];exact hi)).1;rw[Nat.zero_add] at h2;rw[h2];exact congrArg some (Option.some.inj h1).symm
theorem AP(g:Lgr)(va vl vo:Value)(a b:Ast)(w:World)(h:LgS w none g va vl vo)(hc:aH g=0):Calls Tryz.prog 182 #[.agg #[.int .i64 g.num,va,vl,vo,.int .i64 g.nid,.int .i64 g.fees,.int .u64 (g.link:Int)],.agg #[.string (bL a.code),.int .i64 a.iss],.agg #[.string (bL b.code),.int .i64 b.iss]] w fun e w'=>∃A c,e= .returned (.slice A (lC g a b).length c)∧BkR w' w.heap.size A c (lC g a b)∧Fr none w w':=by
 obtain⟨-,g2, -,g4,g5⟩:=aS.1 hc;have hfl:(g.offers.filter (lF a b)).length≤1000:=Nat.le_trans (List.length_filter_le _ _) (by omega);have HFL:=sH hfl;have HL:Hid (∀o ∈ g.offers.filter (lF a b),bX o.num o.den=true):=fun o ho=>pS (eC.1 (g4 o (List.mem_filter.1 ho).1)).2.2.2.2.2.2.2;have HID:Hid (∀x ∈ g.offers.filter (lF a b),∀y ∈ g.offers.filter (lF a b),x.id=y.id→x=y):=fun x hx y hy e=>by
  have hx:=(List.mem_filter.1 hx).1;have hy:=(List.mem_filter.1 hy).1;obtain⟨i,hi,rfl⟩:=List.getElem_of_mem hx;obtain⟨j,hj,rfl⟩:=List.getElem_of_mem hy;rcases Nat.lt_trichotomy i j with k|k|k
  ·have:=List.pairwise_iff_getElem.1 g5 i j hi hj k;omega
  ·subst k;rfl
  have:=List.pairwise_iff_getElem.1 g5 j i hj hi k;omega
 have HN:Hid (g.offers.length≤1000000):=Nat.le_trans g2 (by decide);have HN2:Hid (g.offers.length≤1000):=Nat.le_trans g2 (by decide);have HBK:Hid (lC g a b=(g.offers.filter (lF a b)).mergeSort fun a b=> !decide (btr b a<0)):=rfl;have HBL:Hid ((lC g a b).length=(g.offers.filter (lF a b)).length):=List.length_mergeSort _;clear hfl g2 g4 g5 hc;obtain⟨A1,c1,rfl, -, -, -⟩:=aN h.1;obtain⟨A2,c2,rfl, -, -, -⟩:=aU h.2.1;obtain⟨A3,c3,rfl, -, -, -⟩:=bA h.2.2.1;have HG:=sH h;clear h;go_enter Tryz.func182,Tryz.ntmps182;go_upto_region 1 with(fail)
 generalize hW:((w.alloc _).alloc _).alloc _=w1;obtain⟨FA,hlg,ha,hb⟩:Fr none w w1∧LgB w1 w.heap.size g (.slice A1 g.accs.length c1) (.slice A2 g.lines.length c2) (.slice A3 g.offers.length c3)∧dK w1 (w.heap.size+1) a∧dK w1 (w.heap.size+2) b:=by rw[←hW];exact eS w _ _ _
 clear hW;obtain⟨k0,k1,k2,k3,k4,k5,k6⟩:=hlg.cells;have kl:=aC hlg;go_wp2_with fail;refine(rR g.offers _ w1 (HG.out.2.2.1.fr FA) HN.out).mono ?_;rintro e w2 ⟨A4,c4,rfl,own,F2⟩;clear k0 k1 k2 k3 k4 k5 k6 kl;have hbb:=aC hb;have HA:=sH (ha.fr F2);have HB:=sH (hb.fr F2);have FB:=FA.pure F2;have HO:=sH own;have hsz:=FA.size;clear ha hb hlg own;go_wp2_with fail;refine(xV (fun o=> !lF a b o) 210 #[.pointer (some ⟨w.heap.size+1,0,none⟩),.pointer (some ⟨w.heap.size+2,0,none⟩)] wE g.offers A4 c4 w1.heap.size w2 HN2.out HO.out HG.out.2.2.1.2 (fun y _ W r FW hr=>Cx y a b (w.heap.size+1) (w.heap.size+2) W (HA.out.fr FW (by intro e;have:=hr _ e;omega)) (HB.out.fr FW (by intro e;have:=hr _ e;omega)))).mono ?_;rintro e w3 ⟨A5,c5,rfl,own5,r,F3,hr⟩;have hff:(g.offers.filter fun x=> !(!lF a b x))=g.offers.filter (lF a b):=by simp
 rw[hff] at own5 ⊢;have FC:=FB.own F3 (fun x e=>by have:=hr x e;omega);have HO5:=sH own5;clear hff own5 F3 hr HO HA HB;go_wp2_with fail;refine(AO HL.out HID.out A5 c5 w1.heap.size w3 HFL.out HO5.out).mono ?_;rintro e w4 ⟨rfl,hbk,r2,F4,hr2⟩;have FD:=FC.own F4 (fun x e=>by have:=hr2 x e;omega);have HBKR:=sH hbk;clear hbk F4 hr2 HO5;go_wp2;go_ret;refine⟨A5,c5,by rw[HBL.out]<;>rfl,⟨HBKR.out.le,HBKR.out.cap,fun hn=>?_⟩,FD⟩;obtain⟨bk,h1,h2,h3,h4⟩:=HBKR.out.at_ hn;exact⟨bk,h1,by omega,h3,h4⟩
end Go.Proofs.YthaggndnfamhjaaGreatDoor
