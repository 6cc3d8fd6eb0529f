/- Texts, joined. -/
import Derived.Test.YthaggndnfamhjaaGreatDoorProg
import Derived.Test.YthaggndnfamhjaaGreatDoorJK19
import Derived.Test.YthaggndnfamhjaaGreatDoorJB
import Derived.Test.YthaggndnfamhjaaGreatDoorJA

set_option linter.unusedSimpArgs false
set_option linter.unusedVariables false
set_option maxRecDepth 100000
set_option maxHeartbeats 16000000
namespace Go.Proofs.YthaggndnfamhjaaGreatDoor
open Go.RowKit
def pH(g:Lgr)(va vl:Value)(s:Int)(sg by_:Ast)(amt n d:Int)(w:World)(e:Ending)(w':World):Prop:=
 ∃(va' vl' vo':Value) (G:Lgr) (id:Int),e= .returned (.tuple #[.agg #[.int .i64 G.num,va',vl',vo',.int .i64 G.nid,.int .i64 G.fees,.int .u64 (G.link:Int)],.int .i64 id,.int .i64 (dM g s sg by_ amt n d)])∧LgS w' none G va' vl' vo'∧
  (dM g s sg by_ amt n d=0→G=jJ g s sg by_ amt n d∧id=g.nid∧va'=va∧vl'=vl∧SlD w' (Dn w.heap.size w') 9 vo' (flR ofR G.offers))∧(dM g s sg by_ amt n d≠0→G=lg0∧id=0)∧Fr none w w'
theorem pH.fail{g:Lgr}{va vl:Value}{s:Int}{sg by_:Ast}{amt n d:Int}{w w':World}{E:Int}(h:dM g s sg by_ amt n d=E)(h0:E≠0)(F:Fr none w w'):pH g va vl s sg by_ amt n d w (.returned (.tuple #[.agg #[.int .i64 0,.slice none 0 0,.slice none 0 0,.slice none 0 0,.int .i64 0,.int .i64 0,.int .u64 0],.int .i64 0,.int .i64 E])) w':=
 ⟨_,_,_,lg0,0,by rw[h];rfl,⟨SlR.nil _ _ _,SlR.nil _ _ _,SlR.nil _ _ _,by constructor<;>decide,by constructor<;>decide,by constructor<;>decide,by decide⟩,fun e=>absurd (h.symm.trans e) h0,fun _=>⟨rfl,rfl⟩,F⟩
theorem yJ:cH Tryz.prog 27 67 9 88:=cH.mk_ (z:=.agg #[.int .i64 0,.int .i64 0,.string ⟨#[]⟩,.int .i64 0,.string ⟨#[]⟩,.int .i64 0,.int .i64 0,.int .i64 0,.int .i64 0]) (by kernel_rfl) (by kernel_rfl) rfl (by omega)
theorem fN{P:Program}{t e:TypeId}{size bytes:Nat}(E:cH P t e size bytes){w:World}{ops:Array Oper}{o:Oper}{a:Act}{tm:Array Value}{K:Act→World→Prop}{Q:Exit→Act→World→Prop}{E':Prop}(hw:Region.wanted o (yielded ops tm)=true)(s x:Operand)
  (ho:o.op= .call {callee:=.builtin .append,args:=#[s,x],argTypes:=#[t,t]})
  (base:Nat) (A:Option Addr) (n c:Nat) (xs:List Value) (hs:a.eval s= .slice A n c) (hown:w.ownsRow base e size (.slice A n c) n xs)
  (B:Option Addr) (m d:Nat) (news:List Value) (hx:a.eval x= .slice B m d) (hr:SlD w (fun _=>True) size (.slice B m d) news) (h1:∀u ∈ news,u.oneCell'=true) (hb:(n+m)*bytes≤140737488355328) (h63:n+m≤maxLen) (hbase:base≤w.heap.size)
  (h:∀A' c' w',w'.ownsRow base e size (.slice A' (n+m) c') (n+m) (xs++news)→Fr (Value.slice A n c).ownBlock w w'→oJ w.heap.size (.slice A n c) (.slice A' (n+m) c')→K (a.put o.dst (.slice A' (n+m) c')) w'):
  if Region.wanted o (yielded ops tm)=true then Oper.wp P o a w K Q else E':=by
 rw[if_pos hw];obtain⟨A',c',w',hr,h2,h3,h4⟩:=nU (P:=P) (ty:=o.type) E w base A n c xs hown B m d news hr h1 hb h63 hbase;unfold Oper.wp execOp;simp only[ho,resolve,invoke,builtin,Sem.run_bind,Sem.run_pure,Result.andThen_ok,List.map_toArray,List.map_cons,List.map_nil,hs,hx,hr];refine h A' c' w' h2 h3 ?_;rcases h4 with bl'|bl'
 ·exact .inl bl'
 exact .inr ⟨_,bl',Nat.le_refl _⟩
theorem uY{w:World}{b:Nat}{cs:List Value}{T:TypeId}(h:w.heap[b]?=some (.cells cs.toArray T (0,0)))(hl:cs.length=9:=by rfl):SlD w (fun _=>True) 9 (.slice (some ⟨b,0,none⟩) 1 1) cs:=
 ⟨_,1,1,rfl,by rw[hl],Nat.le_refl _,by unfold maxLen;omega,fun _=>⟨b,0,rfl,trivial,fun j u hu=>by
  rw[Nat.zero_add,aA h];simpa using hu⟩⟩
theorem DU{n d:Int}(h:bX n d=true):Wi (cI n d).1∧Wi (cI n d).2:=by
 unfold cI;rw[if_pos h];unfold bX at h;rw[decide_eq_true_iff] at h;have h1:=Nat.div_le_self n.toNat (Nat.gcd n.toNat d.toNat);have h2:=Nat.div_le_self d.toNat (Nat.gcd n.toNat d.toNat);simp only;generalize n.toNat/Nat.gcd n.toNat d.toNat=u at*
 generalize d.toNat/Nat.gcd n.toNat d.toNat=v at*
 constructor<;>constructor<;>omega
theorem Bz{α:Type}{R:Rec α}{l:List α}{x:α}(h:∀c ∈ l,R.ok c)(hx:R.ok x):∀c ∈ l++[x],R.ok c:=fun y hy=>by
 rcases List.mem_append.1 hy with hy|hy
 ·exact h y hy
 obtain rfl:=List.mem_singleton.1 hy;exact hx
theorem GX{p:Prop}(h:p:=by
 have FZ:=((((((Fr.set1 w6 ⟨w.heap.size+1+1+1,0,none⟩ (.int .i64 0)).same (Fr.set1 _ ⟨w.heap.size+1+1+1,1,none⟩ (.slice none 0 0))).same (Fr.set1 _ ⟨w.heap.size+1+1+1,2,none⟩ (.slice none 0 0))).same (Fr.set1 _ ⟨w.heap.size+1+1+1,3,none⟩ (.slice none 0 0))).same (Fr.set1 _ ⟨w.heap.size+1+1+1,4,none⟩ (.int .i64 0))).same (Fr.set1 _ ⟨w.heap.size+1+1+1,5,none⟩ (.int .i64 0))).same (Fr.set1 _ ⟨w.heap.size+1+1+1,6,none⟩ (.int .u64 0));exact pH.fail HX.out HX0.out ((F1.pure G6).own FZ (by intro q hq;simp at hq;omega))):p:=h
theorem FY{p:Prop}(h:p:=by
 have FZ:=((((((Fr.set1 w11 ⟨w.heap.size+1+1+1,0,none⟩ (.int .i64 0)).same (Fr.set1 _ ⟨w.heap.size+1+1+1,1,none⟩ (.slice none 0 0))).same (Fr.set1 _ ⟨w.heap.size+1+1+1,2,none⟩ (.slice none 0 0))).same (Fr.set1 _ ⟨w.heap.size+1+1+1,3,none⟩ (.slice none 0 0))).same (Fr.set1 _ ⟨w.heap.size+1+1+1,4,none⟩ (.int .i64 0))).same (Fr.set1 _ ⟨w.heap.size+1+1+1,5,none⟩ (.int .i64 0))).same (Fr.set1 _ ⟨w.heap.size+1+1+1,6,none⟩ (.int .u64 0));exact pH.fail HX.out HX0.out ((F1.pure G11).own FZ (by intro q hq;simp at hq;omega))):p:=h
theorem tw4{p:Prop}(h:p:=by
 refine wpAnyH_ready (rs:=[2]) (by kernel_rfl) (by simp) ?_;refine AllReadyH.cons rfl (fun K hK=>?_) AllReadyH.nil;simp only[sJ];refine fN yJ (by rfl) _ _ rfl w12.heap.size none 0 0 [] rfl (World.ownsRow_nil _ _ _ _) A3 g.offers.length co (flR ofR g.offers) rfl ((hG12.out.fr G4).1.any) (dA ofR g.offers) (by omega) (by unfold maxLen;omega) (by have:=(G4).size;omega) ?_;intro A5 c5 w5 own5 F5 _;simp only[Nat.zero_add,List.nil_append] at own5 ⊢;have F5:Fr none _ w5:=F5;have G5:=(G4).pure F5;have hzN:w12.heap.size≤w5.heap.size:=G5.size;refine hK.out _ _ ⟨HS.out _ G5.mono,G5.mono⟩ (fun hH9=>?_);clear hK K hH0;have hH0:=hH9;clear hH9;try simp only[sI]
 have hsrc:=uY (aF hb2 F5 (by simp));refine wpAnyH_ready (rs:=[12]) (by kernel_rfl) (by simp) ?_;refine AllReadyH.cons rfl (fun K hK=>?_) AllReadyH.nil;simp only[sJ];refine fN yJ (by rfl) _ _ rfl w12.heap.size A5 g.offers.length c5 (flR ofR g.offers) rfl own5 (some ⟨wN.heap.size,0,none⟩) 1 1 [.int .i64 g.nid,.int .i64 s,.string (bL sg.code),.int .i64 sg.iss,.string (bL by_.code),.int .i64 by_.iss,.int .i64 amt,.int .i64 n1,.int .i64 n2] rfl hsrc (by simp[Value.oneCell']) (by omega) (by unfold maxLen;omega) (by have:=(G5).size;omega) ?_;intro A7 c7 w7 own7 F7 _;have hbO:=bH own5;have G7:=(G5).own F7 (fun q e=>hbO q e);refine hK.out _ _ ⟨HS.out _ G7.mono,G7.mono⟩ (fun hH9=>?_);clear hK K hH0;have hH0:=hH9;clear hH9;try simp only[sI]
 refine sT 13 ?_;try simp only[sI]
 refine wpAnyH_ready (rs:=[14]) (by kernel_rfl) (by simp) ?_;refine AllReadyH.cons rfl (fun K hK=>?_) AllReadyH.nil;simp only[sJ];have b0:=aF HB0.out (G12.pure G7) (by simp);have c3:w7.cell? ⟨w.heap.size,3,none⟩=some (.slice A3 g.offers.length co):=by rw[aA b0];rfl
 have z3:=aB b0 3;have zl:=aC b0;have hz12:w12.heap.size≤wN.heap.size:=G0.size;go_simp;have G8:Fr (some w.heap.size) w12 (w7.setCell ⟨w.heap.size,3,none⟩ (.slice A7 (g.offers.length+1) c7)):=G7.mono.setRow rfl _;refine hK.out _ _ ⟨HS.out _ G8,G8⟩ (fun hH9=>?_);clear hK K hH0 hH9 G8 c3 z3 zl;try simp only[sI]
 refine wpAnyH_done (by kernel_rfl) ?_ _;go_wp2_with fail;go_meet
 exact⟨A7,c7,w7,rfl,G7,own7⟩):p:=h
theorem BA(g:Lgr)(va vl vo:Value)(s:Int)(sg by_:Ast)(amt n d:Int)(w:World)(h:LgS w none g va vl vo)(hsd:Wi s∧Wi sg.iss∧Wi by_.iss):
  Calls Tryz.prog 25 #[.agg #[.int .i64 g.num,va,vl,vo,.int .i64 g.nid,.int .i64 g.fees,.int .u64 (g.link:Int)],.int .i64 s,.agg #[.string (bL sg.code),.int .i64 sg.iss],.agg #[.string (bL by_.code),.int .i64 by_.iss],.int .i64 amt,.int .i64 n,.int .i64 d] w (pH g va vl s sg by_ amt n d w):=by
 obtain⟨A1,ca,rfl,_,_,_⟩:=aN h.1;obtain⟨A2,cl,rfl,_,_,_⟩:=aU h.2.1;obtain⟨A3,co,rfl,q1,q2,_⟩:=bA h.2.2.1;have HG:=sH h;have HSD:=sH hsd;clear h hsd;go_enter Tryz.func25,Tryz.ntmps25;go_upto_region 1 with(fail)
 generalize hW:(((w.alloc _).alloc _).alloc _).alloc _=w1;have F1:Fr none w w1:=hW▸((((Fr.refl none w).alloc _).alloc _).alloc _).alloc _;have b0:w1.heap[w.heap.size]?=some (.cells #[.int .i64 g.num,.slice A1 g.accs.length ca,.slice A2 g.lines.length cl,.slice A3 g.offers.length co,.int .i64 g.nid,.int .i64 g.fees,.int .u64 (g.link:Int)] 30 (0,0)):=by rw[←hW];exact aF (aD _ _) ((((Fr.refl none _).alloc _).alloc _).alloc _) (by simp)
 have b1:w1.heap[w.heap.size+1]?=some (.cells #[.string (bL sg.code),.int .i64 sg.iss] 46 (0,0)):=by rw[←hW];exact aF (eT (by simp) _) (((Fr.refl none _).alloc _).alloc _) (by simp)
 have b2:w1.heap[w.heap.size+1+1]?=some (.cells #[.string (bL by_.code),.int .i64 by_.iss] 46 (0,0)):=by rw[←hW];exact aF (eT (by simp) _) ((Fr.refl none _).alloc _) (by simp)
 have b3:w1.heap[w.heap.size+1+1+1]?=some (.cells #[.int .i64 0,.slice none 0 0,.slice none 0 0,.slice none 0 0,.int .i64 0,.int .i64 0,.int .u64 0] 30 (0,0)):=by rw[←hW];exact eT (by simp) _
 clear hW;have HK:Hid (∀W,Fr none w1 W→(W.cell? ⟨w.heap.size,0,none⟩=some (.int .i64 g.num)∧W.cell? ⟨w.heap.size,1,none⟩=some (.slice A1 g.accs.length ca)∧W.cell? ⟨w.heap.size,2,none⟩=some (.slice A2 g.lines.length cl)∧W.cell? ⟨w.heap.size,3,none⟩=some (.slice A3 g.offers.length co)∧W.cell? ⟨w.heap.size,4,none⟩=some (.int .i64 g.nid)∧W.cell? ⟨w.heap.size,5,none⟩=some (.int .i64 g.fees)∧W.cell? ⟨w.heap.size,6,none⟩=some (.int .u64 (g.link:Int)))∧(W.cell? ⟨w.heap.size+1,0,none⟩=some (.string (bL sg.code))∧W.cell? ⟨w.heap.size+1,1,none⟩=some (.int .i64 sg.iss))∧(W.cell? ⟨w.heap.size+1+1,0,none⟩=some (.string (bL by_.code))∧W.cell? ⟨w.heap.size+1+1,1,none⟩=some (.int .i64 by_.iss))∧(W.cell? ⟨w.heap.size+1+1+1,0,none⟩=some (.int .i64 0)∧W.cell? ⟨w.heap.size+1+1+1,1,none⟩=some (.slice none 0 0)∧W.cell? ⟨w.heap.size+1+1+1,2,none⟩=some (.slice none 0 0)∧W.cell? ⟨w.heap.size+1+1+1,3,none⟩=some (.slice none 0 0)∧W.cell? ⟨w.heap.size+1+1+1,4,none⟩=some (.int .i64 0)∧W.cell? ⟨w.heap.size+1+1+1,5,none⟩=some (.int .i64 0)∧W.cell? ⟨w.heap.size+1+1+1,6,none⟩=some (.int .u64 0))∧(W.frozen? ⟨w.heap.size+1+1+1,0,none⟩=false∧W.frozen? ⟨w.heap.size+1+1+1,1,none⟩=false∧W.frozen? ⟨w.heap.size+1+1+1,2,none⟩=false∧W.frozen? ⟨w.heap.size+1+1+1,3,none⟩=false∧W.frozen? ⟨w.heap.size+1+1+1,4,none⟩=false∧W.frozen? ⟨w.heap.size+1+1+1,5,none⟩=false∧W.frozen? ⟨w.heap.size+1+1+1,6,none⟩=false)∧w.heap.size+1+1+1<W.heap.size):=fun W FW=>by
  have q0:=aF b0 FW (by simp);have q1:=aF b1 FW (by simp);have q2:=aF b2 FW (by simp);have q3:=aF b3 FW (by simp);exact⟨⟨by rw[aA q0];rfl,by rw[aA q0];rfl,by rw[aA q0];rfl,by rw[aA q0];rfl,by rw[aA q0];rfl,by rw[aA q0];rfl,by rw[aA q0];rfl⟩,⟨by rw[aA q1];rfl,by rw[aA q1];rfl⟩,⟨by rw[aA q2];rfl,by rw[aA q2];rfl⟩,⟨by rw[aA q3];rfl,by rw[aA q3];rfl,by rw[aA q3];rfl,by rw[aA q3];rfl,by rw[aA q3];rfl,by rw[aA q3];rfl,by rw[aA q3];rfl⟩,⟨aB q3 0,aB q3 1,aB q3 2,aB q3 3,aB q3 4,aB q3 5,aB q3 6⟩,aC q3⟩
 have HB0:=sH b0;have HB3:=sH b3;clear b0 b1 b2 b3;have G1:Fr none w1 w1:=Fr.refl _ _;obtain⟨⟨g0,g1,g2,g3,g4,g5,g6⟩,⟨a0,a1⟩,⟨c0,c1⟩,⟨r0,r1,r2,r3,r4,r5,r6⟩,⟨f0,f1,f2,f3,f4,f5,f6⟩,hzl⟩:=HK.out w1 G1;go_wp2_with fail;refine(rB g _ _ _ w1 (HG.out.fr F1)).mono ?_;rintro e w2 ⟨rfl,G2⟩;clear g0 g1 g2 g3 g4 g5 g6 a0 a1 c0 c1 r0 r1 r2 r3 r4 r5 r6 f0 f1 f2 f3 f4 f5 f6 hzl;by_cases hc:aH g=0;rotate_left
 ·have HX:Hid (dM g s sg by_ amt n d=aH g):=by unfold Hid dM;rw[if_pos hc]
  have HX0:Hid (aH g≠0):=hc;have e1:(aH g !=0)=true:=by rw[bne_iff_ne];exact hc
  clear hc;obtain⟨⟨g0,g1,g2,g3,g4,g5,g6⟩,⟨a0,a1⟩,⟨c0,c1⟩,⟨r0,r1,r2,r3,r4,r5,r6⟩,⟨f0,f1,f2,f3,f4,f5,f6⟩,hzl⟩:=HK.out w2 G2;go_wp2;refine bodyPost_ret (v:=.tuple #[.agg #[.int .i64 0,.slice none 0 0,.slice none 0 0,.slice none 0 0,.int .i64 0,.int .i64 0,.int .u64 0],.int .i64 0,.int .i64 (aH g)]) (by simp[results,Tryz.results25,go_sem,r0,r1,r2,r3,r4,r5,r6]) rfl ?_;have FZ:=((((((Fr.set1 w2 ⟨w.heap.size+1+1+1,0,none⟩ (.int .i64 0)).same (Fr.set1 _ ⟨w.heap.size+1+1+1,1,none⟩ (.slice none 0 0))).same (Fr.set1 _ ⟨w.heap.size+1+1+1,2,none⟩ (.slice none 0 0))).same (Fr.set1 _ ⟨w.heap.size+1+1+1,3,none⟩ (.slice none 0 0))).same (Fr.set1 _ ⟨w.heap.size+1+1+1,4,none⟩ (.int .i64 0))).same (Fr.set1 _ ⟨w.heap.size+1+1+1,5,none⟩ (.int .i64 0))).same (Fr.set1 _ ⟨w.heap.size+1+1+1,6,none⟩ (.int .u64 0));exact pH.fail HX.out HX0.out ((F1.pure G2).own FZ (by intro q hq;simp at hq;omega))
 have H1:=sH hc;rw[hc];clear hc;obtain⟨⟨g0,g1,g2,g3,g4,g5,g6⟩,⟨a0,a1⟩,⟨c0,c1⟩,⟨r0,r1,r2,r3,r4,r5,r6⟩,⟨f0,f1,f2,f3,f4,f5,f6⟩,hzl⟩:=HK.out w2 G2;go_wp2_with fail;refine(fM g.accs _ s w2 (HG.out.1.fr (F1.pure G2))).mono ?_;rintro e w3 ⟨rfl,G3⟩;have hfs:=dY g.accs s;generalize dR g.accs s=R at*
 obtain⟨⟨fa,fb,fc⟩,FB⟩:=R;have HFB:Hid (FB=(aK g.accs s).isSome):=hfs;clear hfs;simp only[xB];have G3:=G2.pure G3;clear g0 g1 g2 g3 g4 g5 g6 a0 a1 c0 c1 r0 r1 r2 r3 r4 r5 r6 f0 f1 f2 f3 f4 f5 f6 hzl;obtain⟨⟨g0,g1,g2,g3,g4,g5,g6⟩,⟨a0,a1⟩,⟨c0,c1⟩,⟨r0,r1,r2,r3,r4,r5,r6⟩,⟨f0,f1,f2,f3,f4,f5,f6⟩,hzl⟩:=HK.out w3 G3;go_upto_region 5 with(fail)
 clear g0 g1 g2 g3 g4 g5 g6 a0 a1 c0 c1 r0 r1 r2 r3 r4 r5 r6 f0 f1 f2 f3 f4 f5 f6 hzl;generalize hW:w3.alloc _=w4;have G4:Fr none w1 w4:=G3.pure (hW▸(Fr.refl none w3).alloc _);clear hW;cases FB
 ·have HX:Hid (dM g s sg by_ amt n d=67):=by unfold Hid dM;rw[if_neg (by rw[H1.out];simp),if_pos HFB.out.symm]
  have HX0:Hid ((67:Int)≠0):=by unfold Hid;decide
  obtain⟨⟨g0,g1,g2,g3,g4,g5,g6⟩,⟨a0,a1⟩,⟨c0,c1⟩,⟨r0,r1,r2,r3,r4,r5,r6⟩,⟨f0,f1,f2,f3,f4,f5,f6⟩,hzl⟩:=HK.out w4 G4;go_wp2;refine bodyPost_ret (v:=.tuple #[.agg #[.int .i64 0,.slice none 0 0,.slice none 0 0,.slice none 0 0,.int .i64 0,.int .i64 0,.int .u64 0],.int .i64 0,.int .i64 67]) (by simp[results,Tryz.results25,go_sem,r0,r1,r2,r3,r4,r5,r6]) rfl ?_;have FZ:=((((((Fr.set1 w4 ⟨w.heap.size+1+1+1,0,none⟩ (.int .i64 0)).same (Fr.set1 _ ⟨w.heap.size+1+1+1,1,none⟩ (.slice none 0 0))).same (Fr.set1 _ ⟨w.heap.size+1+1+1,2,none⟩ (.slice none 0 0))).same (Fr.set1 _ ⟨w.heap.size+1+1+1,3,none⟩ (.slice none 0 0))).same (Fr.set1 _ ⟨w.heap.size+1+1+1,4,none⟩ (.int .i64 0))).same (Fr.set1 _ ⟨w.heap.size+1+1+1,5,none⟩ (.int .i64 0))).same (Fr.set1 _ ⟨w.heap.size+1+1+1,6,none⟩ (.int .u64 0));exact pH.fail HX.out HX0.out ((F1.pure G4).own FZ (by intro q hq;simp at hq;omega))
 have H2:Hid ((aK g.accs s).isSome=true):=HFB.out.symm;clear HFB;go_upto_region 7 with(fail)
 go_cut [40] (fun s40 wx=>∃B:Bool,s40= .bool B∧Hid (B=true↔(aV sg=false∨aV by_=false∨sg=by_))∧Fr none w1 wx)
 case first=>
  obtain⟨⟨g0,g1,g2,g3,g4,g5,g6⟩,⟨a0,a1⟩,⟨c0,c1⟩,⟨r0,r1,r2,r3,r4,r5,r6⟩,⟨f0,f1,f2,f3,f4,f5,f6⟩,hzl⟩:=HK.out w4 G4;go_wp2_with fail;refine(iR sg w4).mono ?_;rintro e w5 ⟨rfl,G5⟩;have G5:=G4.pure G5;clear g0 g1 g2 g3 g4 g5 g6 a0 a1 c0 c1 r0 r1 r2 r3 r4 r5 r6 f0 f1 f2 f3 f4 f5 f6 hzl;obtain⟨Q,hQ⟩:∃Q,Q=aV sg:=⟨_,rfl⟩;rw[←hQ];have HQ:=sH hQ;clear hQ;obtain⟨⟨g0,g1,g2,g3,g4,g5,g6⟩,⟨a0,a1⟩,⟨c0,c1⟩,⟨r0,r1,r2,r3,r4,r5,r6⟩,⟨f0,f1,f2,f3,f4,f5,f6⟩,hzl⟩:=HK.out w5 G5;cases Q
  ·go_wp2_with fail;go_meet
   exact⟨_,rfl,⟨fun _=>.inl HQ.out.symm,fun _=>rfl⟩,G5⟩
  go_wp2_with fail;refine(iR by_ w5).mono ?_;rintro e w6 ⟨rfl,G6⟩;have G6:=G5.pure G6;clear g0 g1 g2 g3 g4 g5 g6 a0 a1 c0 c1 r0 r1 r2 r3 r4 r5 r6 f0 f1 f2 f3 f4 f5 f6 hzl;obtain⟨Q,hQ⟩:∃Q,Q=aV by_:=⟨_,rfl⟩;rw[←hQ];have HQ2:=sH hQ;clear hQ;obtain⟨⟨g0,g1,g2,g3,g4,g5,g6⟩,⟨a0,a1⟩,⟨c0,c1⟩,⟨r0,r1,r2,r3,r4,r5,r6⟩,⟨f0,f1,f2,f3,f4,f5,f6⟩,hzl⟩:=HK.out w6 G6;cases Q
  ·go_wp2_with fail;go_meet
   exact⟨_,rfl,⟨fun _=>.inr (.inl HQ2.out.symm),fun _=>rfl⟩,G6⟩
  have t1:=bQ sg.code;have t2:=bQ by_.code;by_cases hk1:sg.code=by_.code
  ·by_cases hk2:sg.iss=by_.iss
   ·have he:Hid (sg=by_):=by cases hx:sg;cases hy:by_;rw[hx,hy] at hk1 hk2;simp only at hk1 hk2;rw[hk1,hk2];rfl
    have hk3:(sg.code=by_.code)=True:=eq_true hk1;have hk4:(sg.iss=by_.iss)=True:=eq_true hk2;clear hk1 hk2;go_wp2_with fail;go_meet
    exact⟨_,rfl,⟨fun _=>.inr (.inr he.out),fun _=>rfl⟩,G6⟩
   have he:Hid (¬sg=by_):=fun e=>hk2 (by rw[e]);have hk3:(sg.code=by_.code)=True:=eq_true hk1;clear hk1;go_wp2_with fail;go_meet
   exact⟨_,rfl,⟨fun h=>(by cases h),fun h=>by rcases h with h|h|h;exact absurd (h.symm.trans HQ.out.symm) (by simp);exact absurd (h.symm.trans HQ2.out.symm) (by simp);exact absurd h he.out⟩,G6⟩
  have he:Hid (¬sg=by_):=fun e=>hk1 (by rw[e]);go_wp2_with fail;go_meet
  exact⟨_,rfl,⟨fun h=>(by cases h),fun h=>by rcases h with h|h|h;exact absurd (h.symm.trans HQ.out.symm) (by simp);exact absurd (h.symm.trans HQ2.out.symm) (by simp);exact absurd h he.out⟩,G6⟩
 case rest=>
  obtain⟨B,rfl,HB,G6⟩:=hcut;obtain⟨w6,hw6⟩:∃w6:World,w6=wc:=⟨_,rfl⟩;subst hw6;cases B;rotate_left
  ·have HX:Hid (dM g s sg by_ amt n d=71):=by unfold Hid dM;rw[if_neg (by rw[H1.out];simp),if_neg (by rw[H2.out];simp),if_pos (HB.out.1 rfl)]
   have HX0:Hid ((71:Int)≠0):=by unfold Hid;decide
   obtain⟨⟨g0,g1,g2,g3,g4,g5,g6⟩,⟨a0,a1⟩,⟨c0,c1⟩,⟨r0,r1,r2,r3,r4,r5,r6⟩,⟨f0,f1,f2,f3,f4,f5,f6⟩,hzl⟩:=HK.out w6 G6;go_wp2;refine bodyPost_ret (v:=.tuple #[.agg #[.int .i64 0,.slice none 0 0,.slice none 0 0,.slice none 0 0,.int .i64 0,.int .i64 0,.int .u64 0],.int .i64 0,.int .i64 71]) (by simp[results,Tryz.results25,go_sem,r0,r1,r2,r3,r4,r5,r6]) rfl ?_;exact GX
  have H5:Hid (¬(aV sg=false∨aV by_=false∨sg=by_)):=fun h=>by have:=HB.out.2 h;cases this
  clear HB;by_cases ha:1≤amt;rotate_left
  ·have HX:Hid (dM g s sg by_ amt n d=72):=by unfold Hid dM;rw[if_neg (by rw[H1.out];simp),if_neg (by rw[H2.out];simp),if_neg H5.out,if_pos (.inl (by omega))]
   have HX0:Hid ((72:Int)≠0):=by unfold Hid;decide
   have e5:decide (amt<1)=true:=decide_eq_true (by omega);clear ha;obtain⟨⟨g0,g1,g2,g3,g4,g5,g6⟩,⟨a0,a1⟩,⟨c0,c1⟩,⟨r0,r1,r2,r3,r4,r5,r6⟩,⟨f0,f1,f2,f3,f4,f5,f6⟩,hzl⟩:=HK.out w6 G6;go_wp2;refine bodyPost_ret (v:=.tuple #[.agg #[.int .i64 0,.slice none 0 0,.slice none 0 0,.slice none 0 0,.int .i64 0,.int .i64 0,.int .u64 0],.int .i64 0,.int .i64 72]) (by simp[results,Tryz.results25,go_sem,r0,r1,r2,r3,r4,r5,r6]) rfl ?_;exact GX
  have e5:decide (amt<1)=false:=decide_eq_false (by omega);go_wp2_with fail;refine(jT amt w6).mono ?_;rintro e w7 ⟨rfl,G7⟩;have G7:=G6.pure G7;obtain⟨Q,hQ⟩:∃Q,Q=aX amt:=⟨_,rfl⟩;rw[←hQ];cases Q
  ·have HX:Hid (dM g s sg by_ amt n d=72):=by unfold Hid dM;rw[if_neg (by rw[H1.out];simp),if_neg (by rw[H2.out];simp),if_neg H5.out,if_pos (.inr (.inl hQ.symm))]
   have HX0:Hid ((72:Int)≠0):=by unfold Hid;decide
   clear hQ ha e5;obtain⟨⟨g0,g1,g2,g3,g4,g5,g6⟩,⟨a0,a1⟩,⟨c0,c1⟩,⟨r0,r1,r2,r3,r4,r5,r6⟩,⟨f0,f1,f2,f3,f4,f5,f6⟩,hzl⟩:=HK.out w7 G7;go_wp2;refine bodyPost_ret (v:=.tuple #[.agg #[.int .i64 0,.slice none 0 0,.slice none 0 0,.slice none 0 0,.int .i64 0,.int .i64 0,.int .u64 0],.int .i64 0,.int .i64 72]) (by simp[results,Tryz.results25,go_sem,r0,r1,r2,r3,r4,r5,r6]) rfl ?_;have FZ:=((((((Fr.set1 w7 ⟨w.heap.size+1+1+1,0,none⟩ (.int .i64 0)).same (Fr.set1 _ ⟨w.heap.size+1+1+1,1,none⟩ (.slice none 0 0))).same (Fr.set1 _ ⟨w.heap.size+1+1+1,2,none⟩ (.slice none 0 0))).same (Fr.set1 _ ⟨w.heap.size+1+1+1,3,none⟩ (.slice none 0 0))).same (Fr.set1 _ ⟨w.heap.size+1+1+1,4,none⟩ (.int .i64 0))).same (Fr.set1 _ ⟨w.heap.size+1+1+1,5,none⟩ (.int .i64 0))).same (Fr.set1 _ ⟨w.heap.size+1+1+1,6,none⟩ (.int .u64 0));exact pH.fail HX.out HX0.out ((F1.pure G7).own FZ (by intro q hq;simp at hq;omega))
  have HA1:Hid (aX amt=true):=hQ.symm;clear hQ;go_wp2_with fail;refine(uW n d w7).mono ?_;rintro e w8 ⟨rfl,G8⟩;have G8:=G7.pure G8;obtain⟨Q,hQ⟩:∃Q,Q=bX n d:=⟨_,rfl⟩;rw[←hQ];cases Q
  ·have HX:Hid (dM g s sg by_ amt n d=72):=by unfold Hid dM;rw[if_neg (by rw[H1.out];simp),if_neg (by rw[H2.out];simp),if_neg H5.out,if_pos (.inr (.inr hQ.symm))]
   have HX0:Hid ((72:Int)≠0):=by unfold Hid;decide
   clear hQ ha e5;obtain⟨⟨g0,g1,g2,g3,g4,g5,g6⟩,⟨a0,a1⟩,⟨c0,c1⟩,⟨r0,r1,r2,r3,r4,r5,r6⟩,⟨f0,f1,f2,f3,f4,f5,f6⟩,hzl⟩:=HK.out w8 G8;go_wp2;refine bodyPost_ret (v:=.tuple #[.agg #[.int .i64 0,.slice none 0 0,.slice none 0 0,.slice none 0 0,.int .i64 0,.int .i64 0,.int .u64 0],.int .i64 0,.int .i64 72]) (by simp[results,Tryz.results25,go_sem,r0,r1,r2,r3,r4,r5,r6]) rfl ?_;have FZ:=((((((Fr.set1 w8 ⟨w.heap.size+1+1+1,0,none⟩ (.int .i64 0)).same (Fr.set1 _ ⟨w.heap.size+1+1+1,1,none⟩ (.slice none 0 0))).same (Fr.set1 _ ⟨w.heap.size+1+1+1,2,none⟩ (.slice none 0 0))).same (Fr.set1 _ ⟨w.heap.size+1+1+1,3,none⟩ (.slice none 0 0))).same (Fr.set1 _ ⟨w.heap.size+1+1+1,4,none⟩ (.int .i64 0))).same (Fr.set1 _ ⟨w.heap.size+1+1+1,5,none⟩ (.int .i64 0))).same (Fr.set1 _ ⟨w.heap.size+1+1+1,6,none⟩ (.int .u64 0));exact pH.fail HX.out HX0.out ((F1.pure G8).own FZ (by intro q hq;simp at hq;omega))
  have H6:Hid (¬(amt<1∨aX amt=false∨bX n d=false)):=by
   rintro(h|h|h)
   ·omega
   ·rw[HA1.out] at h;cases h
   rw[←hQ] at h;cases h
  clear hQ ha e5 HA1;obtain⟨⟨g0,g1,g2,g3,g4,g5,g6⟩,⟨a0,a1⟩,⟨c0,c1⟩,⟨r0,r1,r2,r3,r4,r5,r6⟩,⟨f0,f1,f2,f3,f4,f5,f6⟩,hzl⟩:=HK.out w8 G8;go_wp2_with fail;refine(pG g _ _ _ s sg w8 (HG.out.fr (F1.pure G8))).mono ?_;rintro e w9 ⟨rfl,G9⟩;have G9:=G8.pure G9;clear g0 g1 g2 g3 g4 g5 g6 a0 a1 c0 c1 r0 r1 r2 r3 r4 r5 r6 f0 f1 f2 f3 f4 f5 f6 hzl;obtain⟨Q,hQ⟩:∃Q,Q=dV g s sg:=⟨_,rfl⟩;rw[←hQ];cases Q
  ·have HX:Hid (dM g s sg by_ amt n d=70):=by unfold Hid dM;rw[if_neg (by rw[H1.out];simp),if_neg (by rw[H2.out];simp),if_neg H5.out,if_neg H6.out,if_pos (.inl hQ.symm)]
   have HX0:Hid ((70:Int)≠0):=by unfold Hid;decide
   clear hQ;obtain⟨⟨g0,g1,g2,g3,g4,g5,g6⟩,⟨a0,a1⟩,⟨c0,c1⟩,⟨r0,r1,r2,r3,r4,r5,r6⟩,⟨f0,f1,f2,f3,f4,f5,f6⟩,hzl⟩:=HK.out w9 G9;go_wp2;refine bodyPost_ret (v:=.tuple #[.agg #[.int .i64 0,.slice none 0 0,.slice none 0 0,.slice none 0 0,.int .i64 0,.int .i64 0,.int .u64 0],.int .i64 0,.int .i64 70]) (by simp[results,Tryz.results25,go_sem,r0,r1,r2,r3,r4,r5,r6]) rfl ?_;have FZ:=((((((Fr.set1 w9 ⟨w.heap.size+1+1+1,0,none⟩ (.int .i64 0)).same (Fr.set1 _ ⟨w.heap.size+1+1+1,1,none⟩ (.slice none 0 0))).same (Fr.set1 _ ⟨w.heap.size+1+1+1,2,none⟩ (.slice none 0 0))).same (Fr.set1 _ ⟨w.heap.size+1+1+1,3,none⟩ (.slice none 0 0))).same (Fr.set1 _ ⟨w.heap.size+1+1+1,4,none⟩ (.int .i64 0))).same (Fr.set1 _ ⟨w.heap.size+1+1+1,5,none⟩ (.int .i64 0))).same (Fr.set1 _ ⟨w.heap.size+1+1+1,6,none⟩ (.int .u64 0));exact pH.fail HX.out HX0.out ((F1.pure G9).own FZ (by intro q hq;simp at hq;omega))
  have HH1:Hid (dV g s sg=true):=hQ.symm;clear hQ;obtain⟨⟨g0,g1,g2,g3,g4,g5,g6⟩,⟨a0,a1⟩,⟨c0,c1⟩,⟨r0,r1,r2,r3,r4,r5,r6⟩,⟨f0,f1,f2,f3,f4,f5,f6⟩,hzl⟩:=HK.out w9 G9;go_wp2_with fail;refine(pG g _ _ _ s by_ w9 (HG.out.fr (F1.pure G9))).mono ?_;rintro e w10 ⟨rfl,G10⟩;have G10:=G9.pure G10;clear g0 g1 g2 g3 g4 g5 g6 a0 a1 c0 c1 r0 r1 r2 r3 r4 r5 r6 f0 f1 f2 f3 f4 f5 f6 hzl;obtain⟨Q,hQ⟩:∃Q,Q=dV g s by_:=⟨_,rfl⟩;rw[←hQ];cases Q
  ·have HX:Hid (dM g s sg by_ amt n d=70):=by unfold Hid dM;rw[if_neg (by rw[H1.out];simp),if_neg (by rw[H2.out];simp),if_neg H5.out,if_neg H6.out,if_pos (.inr hQ.symm)]
   have HX0:Hid ((70:Int)≠0):=by unfold Hid;decide
   clear hQ;obtain⟨⟨g0,g1,g2,g3,g4,g5,g6⟩,⟨a0,a1⟩,⟨c0,c1⟩,⟨r0,r1,r2,r3,r4,r5,r6⟩,⟨f0,f1,f2,f3,f4,f5,f6⟩,hzl⟩:=HK.out w10 G10;go_wp2;refine bodyPost_ret (v:=.tuple #[.agg #[.int .i64 0,.slice none 0 0,.slice none 0 0,.slice none 0 0,.int .i64 0,.int .i64 0,.int .u64 0],.int .i64 0,.int .i64 70]) (by simp[results,Tryz.results25,go_sem,r0,r1,r2,r3,r4,r5,r6]) rfl ?_;have FZ:=((((((Fr.set1 w10 ⟨w.heap.size+1+1+1,0,none⟩ (.int .i64 0)).same (Fr.set1 _ ⟨w.heap.size+1+1+1,1,none⟩ (.slice none 0 0))).same (Fr.set1 _ ⟨w.heap.size+1+1+1,2,none⟩ (.slice none 0 0))).same (Fr.set1 _ ⟨w.heap.size+1+1+1,3,none⟩ (.slice none 0 0))).same (Fr.set1 _ ⟨w.heap.size+1+1+1,4,none⟩ (.int .i64 0))).same (Fr.set1 _ ⟨w.heap.size+1+1+1,5,none⟩ (.int .i64 0))).same (Fr.set1 _ ⟨w.heap.size+1+1+1,6,none⟩ (.int .u64 0));exact pH.fail HX.out HX0.out ((F1.pure G10).own FZ (by intro q hq;simp at hq;omega))
  have H7:Hid (¬(dV g s sg=false∨dV g s by_=false)):=by
   rintro(h|h)
   ·rw[HH1.out] at h;cases h
   rw[←hQ] at h;cases h
  clear hQ HH1;obtain⟨⟨g0,g1,g2,g3,g4,g5,g6⟩,⟨a0,a1⟩,⟨c0,c1⟩,⟨r0,r1,r2,r3,r4,r5,r6⟩,⟨f0,f1,f2,f3,f4,f5,f6⟩,hzl⟩:=HK.out w10 G10;go_wp2_with fail;refine(zX g _ _ _ s sg w10 (HG.out.fr (F1.pure G10))).mono ?_;rintro e w11 ⟨rfl,G11⟩;have G11:=G10.pure G11;clear g0 g1 g2 g3 g4 g5 g6 a0 a1 c0 c1 r0 r1 r2 r3 r4 r5 r6 f0 f1 f2 f3 f4 f5 f6 hzl;by_cases hh:fG g s sg=0
  ·have HX:Hid (dM g s sg by_ amt n d=66):=by unfold Hid dM;rw[if_neg (by rw[H1.out];simp),if_neg (by rw[H2.out];simp),if_neg H5.out,if_neg H6.out,if_neg H7.out,if_pos hh]
   have HX0:Hid ((66:Int)≠0):=by unfold Hid;decide
   have e6:(fG g s sg == 0)=true:=by rw[beq_iff_eq];exact hh
   clear hh;obtain⟨⟨g0,g1,g2,g3,g4,g5,g6⟩,⟨a0,a1⟩,⟨c0,c1⟩,⟨r0,r1,r2,r3,r4,r5,r6⟩,⟨f0,f1,f2,f3,f4,f5,f6⟩,hzl⟩:=HK.out w11 G11;go_wp2;refine bodyPost_ret (v:=.tuple #[.agg #[.int .i64 0,.slice none 0 0,.slice none 0 0,.slice none 0 0,.int .i64 0,.int .i64 0,.int .u64 0],.int .i64 0,.int .i64 66]) (by simp[results,Tryz.results25,go_sem,r0,r1,r2,r3,r4,r5,r6]) rfl ?_;exact FY
  have H8:Hid (¬fG g s sg=0):=hh;have e6:(fG g s sg == 0)=false:=by rw[beq_eq_false_iff_ne];exact hh
  clear hh;obtain⟨⟨g0,g1,g2,g3,g4,g5,g6⟩,⟨a0,a1⟩,⟨c0,c1⟩,⟨r0,r1,r2,r3,r4,r5,r6⟩,⟨f0,f1,f2,f3,f4,f5,f6⟩,hzl⟩:=HK.out w11 G11;by_cases hl:g.offers.length=40
  ·have HX:Hid (dM g s sg by_ amt n d=3):=by unfold Hid dM;rw[if_neg (by rw[H1.out];simp),if_neg (by rw[H2.out];simp),if_neg H5.out,if_neg H6.out,if_neg H7.out,if_neg H8.out,if_pos (.inl hl)]
   have HX0:Hid ((3:Int)≠0):=by unfold Hid;decide
   have e7:((g.offers.length:Int) == 40)=true:=by rw[beq_iff_eq];omega
   clear hl;clear g0 g1 g2 g3 g4 g5 g6 a0 a1 c0 c1 r0 r1 r2 r3 r4 r5 r6 f0 f1 f2 f3 f4 f5 f6 hzl;obtain⟨⟨g0,g1,g2,g3,g4,g5,g6⟩,⟨a0,a1⟩,⟨c0,c1⟩,⟨r0,r1,r2,r3,r4,r5,r6⟩,⟨f0,f1,f2,f3,f4,f5,f6⟩,hzl⟩:=HK.out w11 G11;go_wp2;refine bodyPost_ret (v:=.tuple #[.agg #[.int .i64 0,.slice none 0 0,.slice none 0 0,.slice none 0 0,.int .i64 0,.int .i64 0,.int .u64 0],.int .i64 0,.int .i64 3]) (by simp[results,Tryz.results25,go_sem,r0,r1,r2,r3,r4,r5,r6]) rfl ?_;exact FY
  have e7:((g.offers.length:Int) == 40)=false:=by rw[beq_eq_false_iff_ne];omega
  by_cases hm:g.nid=1000000
  ·have HX:Hid (dM g s sg by_ amt n d=3):=by unfold Hid dM;rw[if_neg (by rw[H1.out];simp),if_neg (by rw[H2.out];simp),if_neg H5.out,if_neg H6.out,if_neg H7.out,if_neg H8.out,if_pos (.inr hm)]
   have HX0:Hid ((3:Int)≠0):=by unfold Hid;decide
   have e8:(g.nid == 1000000)=true:=by rw[beq_iff_eq];exact hm
   clear hm hl;clear g0 g1 g2 g3 g4 g5 g6 a0 a1 c0 c1 r0 r1 r2 r3 r4 r5 r6 f0 f1 f2 f3 f4 f5 f6 hzl;obtain⟨⟨g0,g1,g2,g3,g4,g5,g6⟩,⟨a0,a1⟩,⟨c0,c1⟩,⟨r0,r1,r2,r3,r4,r5,r6⟩,⟨f0,f1,f2,f3,f4,f5,f6⟩,hzl⟩:=HK.out w11 G11;go_wp2;refine bodyPost_ret (v:=.tuple #[.agg #[.int .i64 0,.slice none 0 0,.slice none 0 0,.slice none 0 0,.int .i64 0,.int .i64 0,.int .u64 0],.int .i64 0,.int .i64 3]) (by simp[results,Tryz.results25,go_sem,r0,r1,r2,r3,r4,r5,r6]) rfl ?_;exact FY
  have e8:(g.nid == 1000000)=false:=by rw[beq_eq_false_iff_ne];exact hm
  have HE:Hid (dM g s sg by_ amt n d=0):=by unfold Hid dM;rw[if_neg (by rw[H1.out];simp),if_neg (by rw[H2.out];simp),if_neg H5.out,if_neg H6.out,if_neg H7.out,if_neg H8.out,if_neg (fun h=>h.elim hl hm)]
  clear g0 g1 g2 g3 g4 g5 g6 a0 a1 c0 c1 r0 r1 r2 r3 r4 r5 r6 f0 f1 f2 f3 f4 f5 f6 hzl;clear hl hm;obtain⟨⟨g0,g1,g2,g3,g4,g5,g6⟩,⟨a0,a1⟩,⟨c0,c1⟩,⟨r0,r1,r2,r3,r4,r5,r6⟩,⟨f0,f1,f2,f3,f4,f5,f6⟩,hzl⟩:=HK.out w11 G11;go_wp2_with fail;refine(qY n d w11).mono ?_;obtain⟨⟨n1,n2⟩,hRd⟩:∃R,R=cI n d:=⟨_,rfl⟩;rw[←hRd];have HRd:Hid (cI n d=(n1,n2)):=hRd.symm;clear hRd;rintro e w12 ⟨rfl,G12⟩;have G12:=G11.pure G12;clear g0 g1 g2 g3 g4 g5 g6 a0 a1 c0 c1 r0 r1 r2 r3 r4 r5 r6 f0 f1 f2 f3 f4 f5 f6 hzl;obtain⟨⟨g0,g1,g2,g3,g4,g5,g6⟩,⟨a0,a1⟩,⟨c0,c1⟩,⟨r0,r1,r2,r3,r4,r5,r6⟩,⟨f0,f1,f2,f3,f4,f5,f6⟩,hzl⟩:=HK.out w12 G12;go_upto_region 19 with(fail)
  clear g0 g1 g2 g3 g4 g5 g6 a0 a1 c0 c1 r0 r1 r2 r3 r4 r5 r6 f0 f1 f2 f3 f4 f5 f6 hzl;clear e7 e8;have HN12:Hid (Wi n1∧Wi n2):=by
   have h1:=H6.out;have h2:bX n d=true:=by cases h:bX n d;exact absurd (.inr (.inr h)) h1;rfl
   have:=DU h2;rw[HRd.out] at this;exact this
  have HS:Hid (∀W,Fr (some w.heap.size) w12 W→(W.cell? ⟨w.heap.size+1,0,none⟩=some (.string (bL sg.code))∧W.cell? ⟨w.heap.size+1,1,none⟩=some (.int .i64 sg.iss))∧(W.cell? ⟨w.heap.size+1+1,0,none⟩=some (.string (bL by_.code))∧W.cell? ⟨w.heap.size+1+1,1,none⟩=some (.int .i64 by_.iss))):=fun W FW=>by
   obtain⟨_,⟨a0,a1⟩,⟨c0,c1⟩,_⟩:=HK.out w12 G12;exact⟨⟨FW.keep a0,FW.keep a1⟩,⟨FW.keep c0 (by simp;omega),FW.keep c1 (by simp;omega)⟩⟩
  have HR3:Hid (∀W,Fr none w12 W→W.cell? ⟨w.heap.size,3,none⟩=some (.slice A3 g.offers.length co)):=fun W FW=>(HK.out W (G12.pure FW)).1.2.2.2.1;have hlo:g.offers.length≤40:=by
   have:=H1.out;unfold aH at this;split at this
   ·exact absurd this (by assumption)
   split at this
   ·cases this
   omega
  have hnw:1≤g.nid∧g.nid≤1000000:=by
   have:=H1.out;unfold aH at this;split at this
   ·exact absurd this (by assumption)
   split at this
   ·cases this
   split at this
   ·rename_i h;have h:=h.1;unfold dI at h;rw[Bool.and_eq_true,decide_eq_true_iff] at h;exact h.1
   cases this
  have HNW:=sH hnw;clear hnw;have hG12:Hid (SlR ofR w12 none (.slice A3 g.offers.length co) g.offers):=HG.out.2.2.1.fr (F1.pure G12);go_cut [] (fun wx=>∃A7 c7 w7,wx=w7.setCell ⟨w.heap.size,3,none⟩ (.slice A7 (g.offers.length+1) c7)∧Fr none w12 w7∧w7.ownsRow w12.heap.size 67 9 (.slice A7 (g.offers.length+1) c7) (g.offers.length+1) (flR ofR g.offers++[.int .i64 g.nid,.int .i64 s,.string (bL sg.code),.int .i64 sg.iss,.string (bL by_.code),.int .i64 by_.iss,.int .i64 amt,.int .i64 n1,.int .i64 n2]))
  case first=>
   refine wp_region_held_drew (S:=fun W=>((W.cell? ⟨w.heap.size+1,0,none⟩=some (.string (bL sg.code))∧W.cell? ⟨w.heap.size+1,1,none⟩=some (.int .i64 sg.iss))∧(W.cell? ⟨w.heap.size+1+1,0,none⟩=some (.string (bL by_.code))∧W.cell? ⟨w.heap.size+1+1,1,none⟩=some (.int .i64 by_.iss)))∧Fr (some w.heap.size) w12 W) (by kernel_rfl) ⟨HS.out _ (Fr.refl _ _).drew,(Fr.refl _ _).drew⟩ (fun hH0=>?_);refine sT 0 ?_;try simp only[sI]
   refine sT 3 ?_;try simp only[sI]
   refine sT 4 ?_;try simp only[sI]
   refine sT 5 ?_;try simp only[sI]
   refine sT 6 ?_;try simp only[sI]
   refine sT 7 ?_;try simp only[sI]
   refine sT 8 ?_;try simp only[sI]
   refine sT 9 ?_;try simp only[sI]
   refine sT 10 ?_;try simp only[sI]
   have G0:Fr none w12 w12.drew:=(Fr.refl _ _).drew;generalize w12.drew=wN at*
   refine wpAnyH_ready (rs:=[1,11]) (by kernel_rfl) (by simp) ?_;refine AllReadyH.cons rfl (fun K hK=>?_) (AllReadyH.cons rfl (fun K hK=>?_) AllReadyH.nil)
   ·have r3:=HR3.out wN G0;simp only[sJ];go_simp;refine hK.out _ _ ⟨HS.out _ (G0).mono,(G0).mono⟩ (fun hH9=>?_);clear hK K hH0;have hH0:=hH9;clear hH9;try simp only[sI]
    clear r3;refine wpAnyH_ready (rs:=[2,11]) (by kernel_rfl) (by simp) ?_;refine AllReadyH.cons rfl (fun K hK=>?_) (AllReadyH.cons rfl (fun K hK=>?_) AllReadyH.nil)
    ·skip
     simp only[sJ];refine fN yJ (by rfl) _ _ rfl w12.heap.size none 0 0 [] rfl (World.ownsRow_nil _ _ _ _) A3 g.offers.length co (flR ofR g.offers) rfl ((hG12.out.fr G0).1.any) (dA ofR g.offers) (by omega) (by unfold maxLen;omega) (by have:=(G0).size;omega) ?_;intro A5 c5 w5 own5 F5 _;simp only[Nat.zero_add,List.nil_append] at own5 ⊢;have F5:Fr none _ w5:=F5;have G5:=(G0).pure F5;have hzN:w12.heap.size≤w5.heap.size:=G5.size;refine hK.out _ _ ⟨HS.out _ G5.mono,G5.mono⟩ (fun hH9=>?_);clear hK K hH0;have hH0:=hH9;clear hH9;try simp only[sI]
     refine wpAnyH_ready (rs:=[11]) (by kernel_rfl) (by simp) ?_;refine AllReadyH.cons rfl (fun K hK=>?_) AllReadyH.nil;have G6:=G5.alloc (.cells #[.int .i64 g.nid,.int .i64 s,.string (bL sg.code),.int .i64 sg.iss,.string (bL by_.code),.int .i64 by_.iss,.int .i64 amt,.int .i64 n1,.int .i64 n2] 67);have hsrc:=uY (aD w5 (.cells #[.int .i64 g.nid,.int .i64 s,.string (bL sg.code),.int .i64 sg.iss,.string (bL by_.code),.int .i64 by_.iss,.int .i64 amt,.int .i64 n1,.int .i64 n2] 67));have own6:=own5.alloc (.cells #[.int .i64 g.nid,.int .i64 s,.string (bL sg.code),.int .i64 sg.iss,.string (bL by_.code),.int .i64 by_.iss,.int .i64 amt,.int .i64 n1,.int .i64 n2] 67);simp only[sJ];go_simp;refine hK.out _ _ ⟨HS.out _ (G6).mono,(G6).mono⟩ (fun hH9=>?_);clear hK K hH0;have hH0:=hH9;clear hH9;try simp only[sI]
     refine wpAnyH_ready (rs:=[12]) (by kernel_rfl) (by simp) ?_;refine AllReadyH.cons rfl (fun K hK=>?_) AllReadyH.nil;simp only[sJ];refine fN yJ (by rfl) _ _ rfl w12.heap.size A5 g.offers.length c5 (flR ofR g.offers) rfl own6 (some ⟨w5.heap.size,0,none⟩) 1 1 [.int .i64 g.nid,.int .i64 s,.string (bL sg.code),.int .i64 sg.iss,.string (bL by_.code),.int .i64 by_.iss,.int .i64 amt,.int .i64 n1,.int .i64 n2] rfl hsrc (by simp[Value.oneCell']) (by omega) (by unfold maxLen;omega) (by have:=(G6).size;omega) ?_;intro A7 c7 w7 own7 F7 _;have hbO:=bH own6;have G7:=(G6).own F7 (fun q e=>hbO q e);refine hK.out _ _ ⟨HS.out _ G7.mono,G7.mono⟩ (fun hH9=>?_);clear hK K hH0;have hH0:=hH9;clear hH9;try simp only[sI]
     refine sT 13 ?_;try simp only[sI]
     refine wpAnyH_ready (rs:=[14]) (by kernel_rfl) (by simp) ?_;refine AllReadyH.cons rfl (fun K hK=>?_) AllReadyH.nil;simp only[sJ];have b0:=aF HB0.out (G12.pure G7) (by simp);have c3:w7.cell? ⟨w.heap.size,3,none⟩=some (.slice A3 g.offers.length co):=by rw[aA b0];rfl
     have z3:=aB b0 3;have zl:=aC b0;have hz12:w12.heap.size≤wN.heap.size:=G0.size;go_simp;have G8:Fr (some w.heap.size) w12 (w7.setCell ⟨w.heap.size,3,none⟩ (.slice A7 (g.offers.length+1) c7)):=G7.mono.setRow rfl _;refine hK.out _ _ ⟨HS.out _ G8,G8⟩ (fun hH9=>?_);clear hK K hH0 hH9 G8 c3 z3 zl;try simp only[sI]
     refine wpAnyH_done (by kernel_rfl) ?_ _;go_wp2_with fail;go_meet
     exact⟨A7,c7,w7,rfl,G7,own7⟩
    have G4:=G0.alloc (.cells #[.int .i64 g.nid,.int .i64 s,.string (bL sg.code),.int .i64 sg.iss,.string (bL by_.code),.int .i64 by_.iss,.int .i64 amt,.int .i64 n1,.int .i64 n2] 67);have hb2:=aD wN (.cells #[.int .i64 g.nid,.int .i64 s,.string (bL sg.code),.int .i64 sg.iss,.string (bL by_.code),.int .i64 by_.iss,.int .i64 amt,.int .i64 n1,.int .i64 n2] 67);simp only[sJ];go_simp;refine hK.out _ _ ⟨HS.out _ (G4).mono,(G4).mono⟩ (fun hH9=>?_);clear hK K hH0;have hH0:=hH9;clear hH9;try simp only[sI]
    exact tw4
   have G4:=G0.alloc (.cells #[.int .i64 g.nid,.int .i64 s,.string (bL sg.code),.int .i64 sg.iss,.string (bL by_.code),.int .i64 by_.iss,.int .i64 amt,.int .i64 n1,.int .i64 n2] 67);have hb2:=aD wN (.cells #[.int .i64 g.nid,.int .i64 s,.string (bL sg.code),.int .i64 sg.iss,.string (bL by_.code),.int .i64 by_.iss,.int .i64 amt,.int .i64 n1,.int .i64 n2] 67);simp only[sJ];go_simp;refine hK.out _ _ ⟨HS.out _ (G4).mono,(G4).mono⟩ (fun hH9=>?_);clear hK K hH0;have hH0:=hH9;clear hH9;try simp only[sI]
   refine wpAnyH_ready (rs:=[1]) (by kernel_rfl) (by simp) ?_;refine AllReadyH.cons rfl (fun K hK=>?_) AllReadyH.nil;have r3:=HR3.out _ G4;simp only[sJ];go_simp;refine hK.out _ _ ⟨HS.out _ (G4).mono,(G4).mono⟩ (fun hH9=>?_);clear hK K hH0;have hH0:=hH9;clear hH9;try simp only[sI]
   clear r3;exact tw4
  case rest=>
   obtain⟨A7,c7,w7,rfl,G7,own7⟩:=hcut;have b0:=aF HB0.out (G12.pure G7) (by simp);have b3:=aF HB3.out (G12.pure G7) (by simp);have hzb3:=aC (aF HB3.out G12 (by simp));have b8:=aI b0 3 (.slice A7 (g.offers.length+1) c7);simp only[List.setIfInBounds_toArray,List.set_cons_zero,List.set_cons_succ] at b8;have F8:=Fr.set1 w7 ⟨w.heap.size,3,none⟩ (.slice A7 (g.offers.length+1) c7);generalize w7.setCell _ _=w8 at*
   have F8:Fr (some w.heap.size) w7 w8:=F8;have b3:=aF b3 F8 (by simp;omega);have k4:w8.cell? ⟨w.heap.size,4,none⟩=some (.int .i64 g.nid):=by rw[aA b8];rfl
   have z4:=aB b8 4;have zl:=aC b8;have hwr:IntKind.i64.wrap (g.nid+1)=g.nid+1:=by have:=HNW.out;rw[IntKind.wrap_i64];omega
   go_upto_region 21 with(fail)
   clear k4 z4 zl hwr;have b9:=aI b8 4 (.int .i64 (g.nid+1));simp only[List.setIfInBounds_toArray,List.set_cons_zero,List.set_cons_succ] at b9;have F9:=Fr.set1 w8 ⟨w.heap.size,4,none⟩ (.int .i64 (g.nid+1));generalize w8.setCell _ _=w9 at*
   have F9:Fr (some w.heap.size) w8 w9:=F9;have b3:=aF b3 F9 (by simp;omega);have zl:=aC b9;have zl3:=aC b3;have g0:w9.cell? ⟨w.heap.size,0,none⟩=some (.int .i64 g.num):=by rw[aA b9];rfl
   have g1:w9.cell? ⟨w.heap.size,1,none⟩=some (.slice A1 g.accs.length ca):=by rw[aA b9];rfl
   have g2:w9.cell? ⟨w.heap.size,2,none⟩=some (.slice A2 g.lines.length cl):=by rw[aA b9];rfl
   have g3:w9.cell? ⟨w.heap.size,3,none⟩=some (.slice A7 (g.offers.length+1) c7):=by rw[aA b9];rfl
   have g4:w9.cell? ⟨w.heap.size,4,none⟩=some (.int .i64 (g.nid+1)):=by rw[aA b9];rfl
   have g5:w9.cell? ⟨w.heap.size,5,none⟩=some (.int .i64 g.fees):=by rw[aA b9];rfl
   have g6:w9.cell? ⟨w.heap.size,6,none⟩=some (.int .u64 (g.link:Int)):=by rw[aA b9];rfl
   have r0:w9.cell? ⟨w.heap.size+1+1+1,0,none⟩=some (.int .i64 0):=by rw[aA b3];rfl
   have r1:w9.cell? ⟨w.heap.size+1+1+1,1,none⟩=some (.slice none 0 0):=by rw[aA b3];rfl
   have r2:w9.cell? ⟨w.heap.size+1+1+1,2,none⟩=some (.slice none 0 0):=by rw[aA b3];rfl
   have r3:w9.cell? ⟨w.heap.size+1+1+1,3,none⟩=some (.slice none 0 0):=by rw[aA b3];rfl
   have r4:w9.cell? ⟨w.heap.size+1+1+1,4,none⟩=some (.int .i64 0):=by rw[aA b3];rfl
   have r5:w9.cell? ⟨w.heap.size+1+1+1,5,none⟩=some (.int .i64 0):=by rw[aA b3];rfl
   have r6:w9.cell? ⟨w.heap.size+1+1+1,6,none⟩=some (.int .u64 0):=by rw[aA b3];rfl
   have f0:=aB b3 0;have f1:=aB b3 1;have f2:=aB b3 2;have f3:=aB b3 3;have f4:=aB b3 4;have f5:=aB b3 5;have f6:=aB b3 6;go_wp2;refine bodyPost_ret (v:=.tuple #[.agg #[.int .i64 g.num,.slice A1 g.accs.length ca,.slice A2 g.lines.length cl,.slice A7 (g.offers.length+1) c7,.int .i64 (g.nid+1),.int .i64 g.fees,.int .u64 (g.link:Int)],.int .i64 g.nid,.int .i64 0]) (by simp[results,Tryz.results25,go_sem,r0,r1,r2,r3,r4,r5,r6]) rfl ?_;have FZ:=((((((Fr.set1 w9 ⟨w.heap.size+1+1+1,0,none⟩ (.int .i64 g.num)).same (Fr.set1 _ ⟨w.heap.size+1+1+1,1,none⟩ (.slice A1 g.accs.length ca))).same (Fr.set1 _ ⟨w.heap.size+1+1+1,2,none⟩ (.slice A2 g.lines.length cl))).same (Fr.set1 _ ⟨w.heap.size+1+1+1,3,none⟩ (.slice A7 (g.offers.length+1) c7))).same (Fr.set1 _ ⟨w.heap.size+1+1+1,4,none⟩ (.int .i64 (g.nid+1)))).same (Fr.set1 _ ⟨w.heap.size+1+1+1,5,none⟩ (.int .i64 g.fees))).same (Fr.set1 _ ⟨w.heap.size+1+1+1,6,none⟩ (.int .u64 (g.link:Int)));generalize World.setCell _ _ _=w10 at FZ ⊢;have FZ:Fr (some (w.heap.size+1+1+1)) w9 w10:=FZ;have F79:Fr (some w.heap.size) w7 w9:=F8.same F9;have own10:=aR (aR own7 F79 (by intro q hq;simp at hq;omega)) FZ (by intro q hq;simp at hq;omega);have FW:Fr none w w10:=(((F1.pure (G12.pure G7)).own F79 (by intro q hq;simp at hq;omega)).own FZ (by intro q hq;simp at hq;omega));have hlO:(jJ g s sg by_ amt n d).offers=g.offers++[⟨g.nid,s,sg,by_,amt,n1,n2⟩]:=by unfold jJ;rw[HRd.out]
   refine⟨_,_,_,jJ g s sg by_ amt n d,g.nid,?_,⟨?_,?_,?_,?_,?_,?_,?_⟩,fun _=>⟨rfl,rfl,rfl,rfl,by rw[hlO,cV];exact(SlD.own_dn own10).keep (dH (by have:=(F1.pure G12).size;omega))⟩,fun e=>absurd HE.out e,FW⟩
   ·rw[HE.out];rfl
   ·exact HG.out.1.fr FW
   ·exact HG.out.2.1.fr FW
   ·have hl:=hlO;rw[hl];refine SlR.of_own (n:=g.offers.length+1) (by rw[cV];exact own10) (by simp) (Bz HG.out.2.2.1.2 ?_);refine⟨HG.out.2.2.2.2.1,HSD.out.1,HSD.out.2.1,HSD.out.2.2,?_,?_,?_⟩
    ·have:=H6.out;have h1:aX amt=true:=by cases h:aX amt;exact absurd (.inr (.inl h)) this;rfl
     unfold aX at h1;rw[decide_eq_true_iff] at h1;show Wi amt;constructor<;>omega
    ·exact HN12.out.1
    exact HN12.out.2
   ·exact HG.out.2.2.2.1
   ·have:=HNW.out;show Wi (g.nid+1);constructor<;>omega
   ·exact HG.out.2.2.2.2.2.1
   exact HG.out.2.2.2.2.2.2
end Go.Proofs.YthaggndnfamhjaaGreatDoor
