/- Texts, joined. -/
import Derived.Test.YthaggndnfamhjaaGreatDoorJK10
import Derived.Test.YthaggndnfamhjaaGreatDoorProg
import Derived.Test.YthaggndnfamhjaaGreatDoorJK8
import Derived.Test.YthaggndnfamhjaaGreatDoorJK11
import Derived.Test.YthaggndnfamhjaaGreatDoorJK9
import Derived.Test.YthaggndnfamhjaaGreatDoorJA

set_option linter.unusedSimpArgs false
set_option linter.unusedVariables false
set_option maxRecDepth 100000
set_option maxHeartbeats 16000000
namespace Go.Proofs.YthaggndnfamhjaaGreatDoor
open Go.RowKit
theorem vI(x:OpX)(w:World)(hx:OpD w none x)(k6:x.o.kind=6):Calls Tryz.prog 74 #[opV x.o x.v] w fun e w'=>e= .returned (plV x)∧Fr none w w':=by
 have K0:=sH k6;clear k6;obtain⟨o,PA,pc⟩:=x;dsimp only[OpX.v] at*
 have hx:SlR cB w none (.slice PA o.path.length pc) o.path:=hx;generalize hpv:o.path.length=pn at*
 have HPV:=sH hpv;clear hpv;unfold opV;simp only[opL];go_enter Tryz.func74,Tryz.ntmps74;go_upto_region 1 with(fail)
 obtain⟨B,hB⟩:∃B,B=w.heap.size:=⟨_,rfl⟩;rw[←hB];generalize hWa:w.alloc _=wa;have F1:Fr none w wa:=hWa▸(Fr.refl none w).alloc _;have b1:OpB wa B o (.slice PA pn pc):=by rw[←hWa,hB];exact aD _ _
 have sa:B+1=wa.heap.size:=by rw[←hWa,hB];exact(Array.size_push _).symm
 clear hWa;generalize hWb:wa.alloc _=w1;have F2:Fr none wa w1:=hWb▸(Fr.refl none wa).alloc _;have b2:OpB w1 (B+1) op0 (.slice none 0 0):=by rw[←hWb,sa];exact aD _ _
 have b1:=b1.fr F2;have sb:B+2=w1.heap.size:=by rw[←hWb];simp only[World.size_alloc];omega
 have hBw:w.heap.size≤B:=Nat.le_of_eq hB.symm;clear hWb hB sa;have SB:=sH sb;clear sb;have z0:=OpB.free b1 0;have z1:=OpB.free b1 1;have e0:World.cell? w1 ⟨B,0,none⟩=_:=OpB.cell b1 0;have e1:World.cell? w1 ⟨B,1,none⟩=_:=OpB.cell b1 1;have e2:World.cell? w1 ⟨B,2,none⟩=_:=OpB.cell b1 2;have e3:World.cell? w1 ⟨B,3,none⟩=_:=OpB.cell b1 3;have e4:World.cell? w1 ⟨B,4,none⟩=_:=OpB.cell b1 4;have e5:World.cell? w1 ⟨B,5,none⟩=_:=OpB.cell b1 5;have e6:World.cell? w1 ⟨B,6,none⟩=_:=OpB.cell b1 6;have e7:World.cell? w1 ⟨B,7,none⟩=_:=OpB.cell b1 7;have e8:World.cell? w1 ⟨B,8,none⟩=_:=OpB.cell b1 8;have e9:World.cell? w1 ⟨B,9,none⟩=_:=OpB.cell b1 9;have e10:World.cell? w1 ⟨B,10,none⟩=_:=OpB.cell b1 10;have e11:World.cell? w1 ⟨B,11,none⟩=_:=OpB.cell b1 11;have el:=OpB.lt b1;simp only[opL,List.getElem?_cons_zero,List.getElem?_cons_succ] at e0 e1 e2 e3 e4 e5 e6 e7 e8 e9 e10 e11;go_upto_region 2 with(fail)
 obtain⟨C,hC⟩:∃C,C=w1.heap.size:=⟨_,rfl⟩;rw[←hC];generalize hWc:w1.alloc _=w2;have F3:Fr none w1 w2:=hWc▸(Fr.refl none w1).alloc _;have b3:OpB w2 C ⟨o.kind,0,o.amt,0,nat,nat,0,0,0,[]⟩ (.slice none 0 0):=by rw[←hWc,hC];exact aD _ _
 have hCB:B+1<C:=by rw[hC];have:=SB.out;omega
 have b1:=b1.fr F3;have hR:=b2.fr F3;have FF:Fr none w w2:=(F1.pure F2).pure F3;have hBR:w.heap.size≤B+1:=by omega
 have hCw:w.heap.size≤C:=by omega
 have n1:some C≠some B:=fun e=>by have:=Option.some.inj e;omega
 have n2:some C≠some (B+1):=fun e=>by have:=Option.some.inj e;omega
 clear hWc hC z0 z1 e0 e1 e2 e3 e4 e5 e6 e7 e8 e9 e10 e11 el SB F1 F2 F3 b2;have z0:=OpB.free b1 0;have z1:=OpB.free b1 1;have e0:World.cell? w2 ⟨B,0,none⟩=_:=OpB.cell b1 0;have e1:World.cell? w2 ⟨B,1,none⟩=_:=OpB.cell b1 1;have e2:World.cell? w2 ⟨B,2,none⟩=_:=OpB.cell b1 2;have e3:World.cell? w2 ⟨B,3,none⟩=_:=OpB.cell b1 3;have e4:World.cell? w2 ⟨B,4,none⟩=_:=OpB.cell b1 4;have e5:World.cell? w2 ⟨B,5,none⟩=_:=OpB.cell b1 5;have e6:World.cell? w2 ⟨B,6,none⟩=_:=OpB.cell b1 6;have e7:World.cell? w2 ⟨B,7,none⟩=_:=OpB.cell b1 7;have e8:World.cell? w2 ⟨B,8,none⟩=_:=OpB.cell b1 8;have e9:World.cell? w2 ⟨B,9,none⟩=_:=OpB.cell b1 9;have e10:World.cell? w2 ⟨B,10,none⟩=_:=OpB.cell b1 10;have e11:World.cell? w2 ⟨B,11,none⟩=_:=OpB.cell b1 11;have el:=OpB.lt b1;simp only[opL,List.getElem?_cons_zero,List.getElem?_cons_succ] at e0 e1 e2 e3 e4 e5 e6 e7 e8 e9 e10 e11;go_wp2_with fail;refine(cT o.to_ 1 1000 w2).mono ?_;rintro e w3 ⟨rfl,rfl⟩;have hl:=b3.lt;have k6:=K0.out;try dsimp only at k6
 have kk:(o.kind == 6)=true:=by rw[beq_iff_eq];exact k6
 have KK:=sH k6;have kk1:(o.kind == 1)=false:=by rw[beq_eq_false_iff_ne];omega
 have kk2:(o.kind == 2)=false:=by rw[beq_eq_false_iff_ne];omega
 have kk3:(o.kind == 3)=false:=by rw[beq_eq_false_iff_ne];omega
 have kk4:(o.kind == 4)=false:=by rw[beq_eq_false_iff_ne];omega
 have kk5:(o.kind == 5)=false:=by rw[beq_eq_false_iff_ne];omega
 clear k6;go_upto_region 20 with(fail)
 refine bZ (fun W=>Fr (some C) w3 W) (phS [fun W=>Fr none w3 W,fun W=>OpB W C ⟨o.kind,o.to_,o.amt,0,nat,nat,0,0,0,[]⟩ (.slice none 0 0)∧Fr (some C) w3 W,fun W=>OpB W C ⟨o.kind,o.to_,o.amt,o.lim,nat,nat,0,0,0,[]⟩ (.slice none 0 0)∧Fr (some C) w3 W,fun W=>OpB W C ⟨o.kind,o.to_,o.amt,o.lim,o.ast,nat,0,0,0,[]⟩ (.slice none 0 0)∧Fr (some C) w3 W,fun W=>OpB W C ⟨o.kind,o.to_,o.amt,o.lim,o.ast,o.oth,0,0,0,[]⟩ (.slice none 0 0)∧Fr (some C) w3 W,fun W=>OpB W C ⟨o.kind,o.to_,o.amt,o.lim,o.ast,o.oth,0,0,0,o.path⟩ (.slice PA pn pc)∧Fr (some C) w3 W]) [11,13,15,17,19] [] 165 [none,some 136,none,some 135,none,some 134,none,some 133,none,some 132,some 131,some 130,some 129,some 128,some 127,some 126,some 125,some 124,some 123,some 122] (by kernel_rfl) (by kernel_rfl) (by kernel_rfl) (Nat.le_refl _) (show(fun W=>Fr none w3 W) _ from(Fr.refl _ _).drew) (fun p hp W hW=>phG (l:=[fun W=>Fr none w3 W,fun W=>OpB W C ⟨o.kind,o.to_,o.amt,0,nat,nat,0,0,0,[]⟩ (.slice none 0 0)∧Fr (some C) w3 W,fun W=>OpB W C ⟨o.kind,o.to_,o.amt,o.lim,nat,nat,0,0,0,[]⟩ (.slice none 0 0)∧Fr (some C) w3 W,fun W=>OpB W C ⟨o.kind,o.to_,o.amt,o.lim,o.ast,nat,0,0,0,[]⟩ (.slice none 0 0)∧Fr (some C) w3 W,fun W=>OpB W C ⟨o.kind,o.to_,o.amt,o.lim,o.ast,o.oth,0,0,0,[]⟩ (.slice none 0 0)∧Fr (some C) w3 W,fun W=>OpB W C ⟨o.kind,o.to_,o.amt,o.lim,o.ast,o.oth,0,0,0,o.path⟩ (.slice PA pn pc)∧Fr (some C) w3 W]) (by intro s hs W h;simp only[List.mem_cons,List.not_mem_nil,or_false] at hs;rcases hs with rfl|rfl|rfl|rfl|rfl|rfl<;>(first|exact h.2|exact h.mono)) p (Nat.lt_succ_of_le hp) W hW) ?_;refine FxM.p [] [1] ?_;have HF1:=sH (fun(w:World) (hS:(fun W=>Fr (some C) w3 W) w)=>(b1.fr hS n1).cells);refine FxM.q HF1.out [(0,0,122)] [] ?_;refine FxM.p [] [1] ?_;refine FxM.q HF1.out [(0,2,124)] [] ?_;refine FxM.p [] [1] ?_;refine FxM.q HF1.out [(0,4,126)] [] ?_;refine FxM.p [] [1] ?_;refine FxM.q HF1.out [(0,6,128)] [] ?_;refine FxM.p [] [1] ?_;refine FxM.q HF1.out [(0,8,130)] [] ?_;refine FxM.p [] [4] ?_;refine FxM.store 0 rfl rfl (fun ev w (hS:(fun W=>Fr none w3 W) w) E=>?_) ?_
 ·obtain⟨t132,t123,ec,ef,eg⟩:=E.get [(0,10,132),(9,1,123)] [] (by kernel_rfl);clear E;simp only[aG] at t132 t123;have hB9:=b3.fr hS;have hz:=hB9.frees;obtain⟨c0,c1,c2,c3,c4,c5,c6,c7,c8,c9,c10,c11⟩:=hB9.cells;try dsimp only at c0 c1 c2 c3 c4 c5 c6 c7 c8 c9 c10 c11
  refine⟨?_,?_,?_⟩;rotate_left
  ·go_simp;try with_reducible rfl
  exact⟨OpB.to_ hB9 o.to_,(hS.mono.setRow (p:=⟨C,1,none⟩) rfl _)⟩
 refine FxM.p [] [4] ?_;refine FxM.store 1 rfl rfl (fun ev w (hS:(fun W=>OpB W C ⟨o.kind,o.to_,o.amt,0,nat,nat,0,0,0,[]⟩ (.slice none 0 0)∧Fr (some C) w3 W) w) E=>?_) ?_
 ·obtain⟨t133,t125,ec,ef,eg⟩:=E.get [(0,12,133),(9,3,125)] [] (by kernel_rfl);clear E;simp only[aG] at t133 t125;have hB9:=hS.1;have hz:=hB9.frees;obtain⟨c0,c1,c2,c3,c4,c5,c6,c7,c8,c9,c10,c11⟩:=hB9.cells;try dsimp only at c0 c1 c2 c3 c4 c5 c6 c7 c8 c9 c10 c11
  refine⟨?_,?_,?_⟩;rotate_left
  ·go_simp;try with_reducible rfl
  exact⟨OpB.lim hB9 o.lim,(hS.2.setRow (p:=⟨C,3,none⟩) rfl _)⟩
 refine FxM.p [] [4] ?_;refine FxM.store 2 rfl rfl (fun ev w (hS:(fun W=>OpB W C ⟨o.kind,o.to_,o.amt,o.lim,nat,nat,0,0,0,[]⟩ (.slice none 0 0)∧Fr (some C) w3 W) w) E=>?_) ?_
 ·obtain⟨t134,t127,ec,ef,eg⟩:=E.get [(0,14,134),(9,5,127)] [] (by kernel_rfl);clear E;simp only[aG] at t134 t127;have hB9:=hS.1;have hz:=hB9.frees;obtain⟨c0,c1,c2,c3,c4,c5,c6,c7,c8,c9,c10,c11⟩:=hB9.cells;try dsimp only at c0 c1 c2 c3 c4 c5 c6 c7 c8 c9 c10 c11
  refine⟨?_,?_,?_⟩;rotate_left
  ·go_simp;try with_reducible rfl
  exact⟨OpB.ast hB9 o.ast,((hS.2.setRow (p:=⟨C,4,none⟩) rfl _).setRow (p:=⟨C,5,none⟩) rfl _)⟩
 refine FxM.p [] [4] ?_;refine FxM.store 3 rfl rfl (fun ev w (hS:(fun W=>OpB W C ⟨o.kind,o.to_,o.amt,o.lim,o.ast,nat,0,0,0,[]⟩ (.slice none 0 0)∧Fr (some C) w3 W) w) E=>?_) ?_
 ·obtain⟨t135,t129,ec,ef,eg⟩:=E.get [(0,16,135),(9,7,129)] [] (by kernel_rfl);clear E;simp only[aG] at t135 t129;have hB9:=hS.1;have hz:=hB9.frees;obtain⟨c0,c1,c2,c3,c4,c5,c6,c7,c8,c9,c10,c11⟩:=hB9.cells;try dsimp only at c0 c1 c2 c3 c4 c5 c6 c7 c8 c9 c10 c11
  refine⟨?_,?_,?_⟩;rotate_left
  ·go_simp;try with_reducible rfl
  exact⟨OpB.oth hB9 o.oth,((hS.2.setRow (p:=⟨C,6,none⟩) rfl _).setRow (p:=⟨C,7,none⟩) rfl _)⟩
 refine FxM.p [] [4] ?_;refine FxM.store 4 rfl rfl (fun ev w (hS:(fun W=>OpB W C ⟨o.kind,o.to_,o.amt,o.lim,o.ast,o.oth,0,0,0,[]⟩ (.slice none 0 0)∧Fr (some C) w3 W) w) E=>?_) ?_
 ·obtain⟨t136,t131,ec,ef,eg⟩:=E.get [(0,18,136),(9,9,131)] [] (by kernel_rfl);clear E;simp only[aG] at t136 t131;have hB9:=hS.1;have hz:=hB9.frees;obtain⟨c0,c1,c2,c3,c4,c5,c6,c7,c8,c9,c10,c11⟩:=hB9.cells;try dsimp only at c0 c1 c2 c3 c4 c5 c6 c7 c8 c9 c10 c11
  refine⟨?_,?_,?_⟩;rotate_left
  ·go_simp;try with_reducible rfl
  exact⟨OpB.path hB9 o.path (.slice PA pn pc),(hS.2.setRow (p:=⟨C,11,none⟩) rfl _)⟩
 refine FxM.done (fun W (hW:(fun W=>OpB W C ⟨o.kind,o.to_,o.amt,o.lim,o.ast,o.oth,0,0,0,o.path⟩ (.slice PA pn pc)∧Fr (some C) w3 W) W)=>?_);simp only[bF];try simp only[sI]
 obtain⟨hb,G⟩:=hW;go_upto_region 21 with(fail)
 obtain⟨w4,hw4⟩:∃w4,w4=W:=⟨_,rfl⟩;rw[←hw4] at hb G ⊢;clear hw4;have b1:=b1.fr G n1;have hR:=hR.fr G n2;have FF:=FF.new G hCw;refine bZ (fun _=>True) (phS [fun W=>Fr none w4 W,fun W=>OpB W (B+1) ⟨o.kind,o.to_,o.amt,o.lim,o.ast,o.oth,0,0,0,o.path⟩ (.slice PA pn pc)∧Fr (some (B+1)) w4 W]) [27] [0,4,5,9,10,14,15,19,20,24,25] 165 [some 3,none,some 163,some 162,some 161,some 160,some 159,some 158,some 157,some 156,some 155,some 154,some 153,some 152,some 151,some 150,some 149,some 148,some 147,some 146,some 145,some 144,some 143,some 142,some 141,some 140,some 139,some 138,some 137] (by kernel_rfl) (by kernel_rfl) (by kernel_rfl) (Nat.le_refl _) (show(fun W=>Fr none w4 W) _ from(Fr.refl _ _).drew) (fun _ _ _ _=>trivial) ?_;have HF2:=sH (fun(w:World) (hS:(fun W=>Fr none w4 W) w)=>And.intro ((hb.fr hS).cells) ((b1.fr hS).cells));refine FxM.l HF2.out [] [4] ?_;refine FxM.p [] [5] ?_;refine FxM.p [(0,1,138)] [] ?_;refine FxM.x 0 [] [1] ?_;refine FxM.xl HF2.out 1 [(0,3,140)] [] ?_;refine FxM.gwc (u:=?_) (f:=?_) (args:=?_) rfl 2 rfl (by simp only[aG]<;>rfl) (by kernel_rfl) (fun hg ev w (hS:(fun W=>Fr none w4 W) w) E=>?_) (fun hg w (hS:(fun W=>Fr none w4 W) w)=>?_) ?_;rotate_left 3
 ·obtain⟨c0,c1,c2,c3,c4,c5,c6,c7,c8,c9,c10,c11⟩:=(hb.fr hS).cells;obtain⟨d0,d1,d2,d3,d4,d5,d6,d7,d8,d9,d10,d11⟩:=(b1.fr hS).cells;dsimp only at c0 c1 c2 c3 c4 c5 c6 c7 c8 c9 c10 c11;obtain⟨t141,ec,ef,eg⟩:=E.get [(0,4,141)] [] (by kernel_rfl);clear E;simp only[aG] at t141
  (try simp only[hg,bG] at t141);go_simp;first|(refine And.intro ?_ ?_<;>with_reducible rfl)|with_reducible rfl
 ·obtain⟨c0,c1,c2,c3,c4,c5,c6,c7,c8,c9,c10,c11⟩:=(hb.fr hS).cells;obtain⟨d0,d1,d2,d3,d4,d5,d6,d7,d8,d9,d10,d11⟩:=(b1.fr hS).cells;dsimp only at c0 c1 c2 c3 c4 c5 c6 c7 c8 c9 c10 c11;refine(jV _ w).mono ?_;rintro e w2 ⟨rfl,rfl⟩;refine⟨?_,hS⟩;with_reducible rfl
 refine FxM.pand rfl rfl rfl 3 2 0 5 (by kernel_rfl) rfl rfl ?_;refine FxM.p [(0,6,143)] [] ?_;refine FxM.x 0 [] [1] ?_;refine FxM.xl HF2.out 1 [(0,8,145)] [] ?_;refine FxM.gwc (u:=?_) (f:=?_) (args:=?_) rfl 2 rfl (by simp only[aG]<;>rfl) (by kernel_rfl) (fun hg ev w (hS:(fun W=>Fr none w4 W) w) E=>?_) (fun hg w (hS:(fun W=>Fr none w4 W) w)=>?_) ?_;rotate_left 3
 ·obtain⟨c0,c1,c2,c3,c4,c5,c6,c7,c8,c9,c10,c11⟩:=(hb.fr hS).cells;obtain⟨d0,d1,d2,d3,d4,d5,d6,d7,d8,d9,d10,d11⟩:=(b1.fr hS).cells;dsimp only at c0 c1 c2 c3 c4 c5 c6 c7 c8 c9 c10 c11;obtain⟨t146,ec,ef,eg⟩:=E.get [(0,9,146)] [] (by kernel_rfl);clear E;simp only[aG] at t146
  (try simp only[hg,bG] at t146);go_simp;first|(refine And.intro ?_ ?_<;>with_reducible rfl)|with_reducible rfl
 ·obtain⟨c0,c1,c2,c3,c4,c5,c6,c7,c8,c9,c10,c11⟩:=(hb.fr hS).cells;obtain⟨d0,d1,d2,d3,d4,d5,d6,d7,d8,d9,d10,d11⟩:=(b1.fr hS).cells;dsimp only at c0 c1 c2 c3 c4 c5 c6 c7 c8 c9 c10 c11;refine(jV _ w).mono ?_;rintro e w2 ⟨rfl,rfl⟩;refine⟨?_,hS⟩;with_reducible rfl
 refine FxM.pand rfl rfl rfl 3 7 0 10 (by kernel_rfl) rfl rfl ?_;refine FxM.p [(0,11,148)] [] ?_;refine FxM.x 0 [] [1] ?_;refine FxM.xl HF2.out 1 [(0,13,150)] [] ?_;refine FxM.gwc (u:=?_) (f:=?_) (args:=?_) rfl 2 rfl (by simp only[aG]<;>rfl) (by kernel_rfl) (fun hg ev w (hS:(fun W=>Fr none w4 W) w) E=>?_) (fun hg w (hS:(fun W=>Fr none w4 W) w)=>?_) ?_;rotate_left 3
 ·obtain⟨c0,c1,c2,c3,c4,c5,c6,c7,c8,c9,c10,c11⟩:=(hb.fr hS).cells;obtain⟨d0,d1,d2,d3,d4,d5,d6,d7,d8,d9,d10,d11⟩:=(b1.fr hS).cells;dsimp only at c0 c1 c2 c3 c4 c5 c6 c7 c8 c9 c10 c11;obtain⟨t151,ec,ef,eg⟩:=E.get [(0,14,151)] [] (by kernel_rfl);clear E;simp only[aG] at t151
  (try simp only[hg,bG] at t151);go_simp;first|(refine And.intro ?_ ?_<;>with_reducible rfl)|with_reducible rfl
 ·obtain⟨c0,c1,c2,c3,c4,c5,c6,c7,c8,c9,c10,c11⟩:=(hb.fr hS).cells;obtain⟨d0,d1,d2,d3,d4,d5,d6,d7,d8,d9,d10,d11⟩:=(b1.fr hS).cells;dsimp only at c0 c1 c2 c3 c4 c5 c6 c7 c8 c9 c10 c11;refine(bT o.ast w).mono ?_;rintro e w2 ⟨rfl,F2⟩;refine⟨?_,hS.pure F2⟩;with_reducible rfl
 refine FxM.pand rfl rfl rfl 3 12 0 15 (by kernel_rfl) rfl rfl ?_;refine FxM.p [(0,16,153)] [] ?_;refine FxM.x 0 [] [1] ?_;refine FxM.xl HF2.out 1 [(0,18,155)] [] ?_;refine FxM.gwc (u:=?_) (f:=?_) (args:=?_) rfl 2 rfl (by simp only[aG]<;>rfl) (by kernel_rfl) (fun hg ev w (hS:(fun W=>Fr none w4 W) w) E=>?_) (fun hg w (hS:(fun W=>Fr none w4 W) w)=>?_) ?_;rotate_left 3
 ·obtain⟨c0,c1,c2,c3,c4,c5,c6,c7,c8,c9,c10,c11⟩:=(hb.fr hS).cells;obtain⟨d0,d1,d2,d3,d4,d5,d6,d7,d8,d9,d10,d11⟩:=(b1.fr hS).cells;dsimp only at c0 c1 c2 c3 c4 c5 c6 c7 c8 c9 c10 c11;obtain⟨t156,ec,ef,eg⟩:=E.get [(0,19,156)] [] (by kernel_rfl);clear E;simp only[aG] at t156
  (try simp only[hg,bG] at t156);go_simp;first|(refine And.intro ?_ ?_<;>with_reducible rfl)|with_reducible rfl
 ·obtain⟨c0,c1,c2,c3,c4,c5,c6,c7,c8,c9,c10,c11⟩:=(hb.fr hS).cells;obtain⟨d0,d1,d2,d3,d4,d5,d6,d7,d8,d9,d10,d11⟩:=(b1.fr hS).cells;dsimp only at c0 c1 c2 c3 c4 c5 c6 c7 c8 c9 c10 c11;refine(bT o.oth w).mono ?_;rintro e w2 ⟨rfl,F2⟩;refine⟨?_,hS.pure F2⟩;with_reducible rfl
 refine FxM.pand rfl rfl rfl 3 17 0 20 (by kernel_rfl) rfl rfl ?_;refine FxM.p [(0,21,158)] [] ?_;refine FxM.x 0 [] [1] ?_;refine FxM.xl HF2.out 1 [(0,23,160)] [] ?_;refine FxM.gwc (u:=?_) (f:=?_) (args:=?_) rfl 2 rfl (by simp only[aG]<;>rfl) (by kernel_rfl) (fun hg ev w (hS:(fun W=>Fr none w4 W) w) E=>?_) (fun hg w (hS:(fun W=>Fr none w4 W) w)=>?_) ?_;rotate_left 3
 ·obtain⟨c0,c1,c2,c3,c4,c5,c6,c7,c8,c9,c10,c11⟩:=(hb.fr hS).cells;obtain⟨d0,d1,d2,d3,d4,d5,d6,d7,d8,d9,d10,d11⟩:=(b1.fr hS).cells;dsimp only at c0 c1 c2 c3 c4 c5 c6 c7 c8 c9 c10 c11;obtain⟨t161,ec,ef,eg⟩:=E.get [(0,24,161)] [] (by kernel_rfl);clear E;simp only[aG] at t161
  (try simp only[hg,bG] at t161);go_simp;first|(refine And.intro ?_ ?_<;>with_reducible rfl)|with_reducible rfl
 ·obtain⟨c0,c1,c2,c3,c4,c5,c6,c7,c8,c9,c10,c11⟩:=(hb.fr hS).cells;obtain⟨d0,d1,d2,d3,d4,d5,d6,d7,d8,d9,d10,d11⟩:=(b1.fr hS).cells;dsimp only at c0 c1 c2 c3 c4 c5 c6 c7 c8 c9 c10 c11;refine(vB o.path _ w (SlR.fr (SlR.fr hx FF) hS)).mono ?_;rintro e w2 ⟨rfl,F2⟩;refine⟨?_,hS.pure F2⟩;with_reducible rfl
 refine FxM.pand rfl rfl rfl 3 22 0 25 (by kernel_rfl) rfl rfl ?_;refine FxM.store 0 rfl rfl (fun ev w (hS:(fun W=>Fr none w4 W) w) E=>?_) ?_
 ·obtain⟨t137,t2,ec,ef,eg⟩:=E.get [(26,0,137)] [2] (by kernel_rfl);clear E;simp only[aG] at t137;have hz:=(hR.fr hS).frees;obtain⟨c0,c1,c2,c3,c4,c5,c6,c7,c8,c9,c10,c11⟩:=(hR.fr hS).cells;refine⟨?_,?_,?_⟩;rotate_left
  ·go_simp;try with_reducible rfl
  exact zM hR hS ⟨o.kind,o.to_,o.amt,o.lim,o.ast,o.oth,0,0,0,o.path⟩ (.slice PA pn pc) _ rfl
 refine FxM.p [(1,26,163)] [] ?_;refine FxM.done (fun W (hW:(fun W=>OpB W (B+1) ⟨o.kind,o.to_,o.amt,o.lim,o.ast,o.oth,0,0,0,o.path⟩ (.slice PA pn pc)∧Fr (some (B+1)) w4 W) W)=>?_);simp only[bF];try simp only[sI]
 have hRW:OpB W (B+1) _ _:=hW.1;have z0:=OpB.free hRW 0;have z1:=OpB.free hRW 1;have z2:=OpB.free hRW 2;have z3:=OpB.free hRW 3;have z4:=OpB.free hRW 4;have z5:=OpB.free hRW 5;have z6:=OpB.free hRW 6;have z7:=OpB.free hRW 7;have z8:=OpB.free hRW 8;have z9:=OpB.free hRW 9;have z10:=OpB.free hRW 10;have z11:=OpB.free hRW 11;obtain⟨e0,e1,e2,e3,e4,e5,e6,e7,e8,e9,e10,e11⟩:=hRW.cells;have el:=OpB.lt hRW;try simp only[op0] at e0 e1 e2 e3 e4 e5 e6 e7 e8 e9 e10 e11
 try dsimp only at e0 e1 e2 e3 e4 e5 e6 e7 e8 e9 e10 e11
 go_wp2;refine bodyPost_ret (v:=.tuple #[opV ⟨o.kind,o.to_,o.amt,o.lim,o.ast,o.oth,0,0,0,o.path⟩ (.slice PA pn pc),.bool ((((((inR o.to_ 1 1000&&dW o.amt)&&dW o.lim)&&aV o.ast)&&aV o.oth)&&gI o.path))]) (by simp[results,Tryz.results74,go_sem,opV,opL,e0,e1,e2,e3,e4,e5,e6,e7,e8,e9,e10,e11]) rfl ?_;refine⟨?_,FF.new hW.2 hBR⟩;rw[Hn _ KK.out];rw[←HPV.out];dsimp only[OpX.v];all_goals(try simp only[Bool.and_assoc])
 all_goals(try rfl)
theorem Eg(a b:List Ast)(va vb:Value)(w:World)(r:Option Nat)(ha:SlR cB w r va a)(hb:SlR cB w r vb b):
  Calls Tryz.prog 106 #[va,vb] w fun e w'=>e= .returned (.bool (decide (a=b)))∧Fr none w w':=by
 have HA:=sH ha;have HB:=sH hb;obtain⟨A,c,rfl,q1,q2,hc⟩:=iJ ha;obtain⟨B,d,rfl,q3,q4,hd⟩:=iJ hb;clear ha hb;by_cases hl:a.length=b.length
 ·have HL:=sH hl;obtain⟨n,hn⟩:∃n,n=a.length:=⟨_,rfl⟩;have HN:=sH hn;have HN2:=sH (hn.trans hl);have hn2:n=b.length:=hn.trans hl;have hc':0<n→_:=fun h=>hc (by omega);have hd':0<n→_:=fun h=>hd (by omega);rw[←hn] at HA q1 ⊢;rw[←hn2] at HB q3 ⊢;clear hl hn hn2 hc hd;have hc:=hc';have hd:=hd';clear hc' hd';go_enter Tryz.func106,Tryz.ntmps106;go_wp2_with fail;go_loopw [13] (fun i wr=>∃k:Nat,k≤n∧i= .int .i64 k∧Fr none w wr∧∀j (h1:j<a.length) (h2:j<b.length),j<k→a[j]=b[j]) (fun i _=>n - (intOf i).toNat)
  case atStart=>exact⟨0,Nat.zero_le _,rfl,Fr.refl _ _,fun j h1 h2 h=>by omega⟩
  case round=>
   obtain⟨k,hk,rfl,F,hall⟩:=hrel;have HH:=sH hall;clear hall;by_cases hlt:k<n
   ·obtain⟨b1,o1,rfl,hb1,hx1,hc1⟩:=hc (by omega);obtain⟨b2,o2,rfl,hb2,hx2,hc2⟩:=hd (by omega);have k1:k<a.length:=by have:=HN.out;omega
    have k2:k<b.length:=by have:=HN2.out;omega
    have d1:=F.keep (hc1 k k1).1 (by simp);have d2:=F.keep (hc1 k k1).2 (by simp);have d3:=F.keep (hc2 k k2).1 (by simp);have d4:=F.keep (hc2 k k2).2 (by simp);clear hc hd hc1 hc2;obtain⟨x,hx⟩:∃x,x=a[k]:=⟨_,rfl⟩;obtain⟨y,hy⟩:∃y,y=b[k]:=⟨_,rfl⟩;rw[←hx] at d1 d2;rw[←hy] at d3 d4;have HX:=sH hx;have HY:=sH hy;clear hx hy;by_cases he:x=y
    ·have HE:=sH he;subst he;go_wp2_with fail;go_quiet (fail);go_wp2_with fail;go_roundw
     case rel=>exact⟨k+1,by omega,by go_num,F.drewN _,fun j h1 h2 h=>by
      by_cases e:j=k
      ·subst e;rw[←HX.out,←HY.out]
      exact HH.out j h1 h2 (by omega)⟩
     case measure=>simp[intOf];omega
    have hne:a≠b:=fun h=>by
     apply he;rw[HX.out,HY.out];subst h;rfl
    have HE:=sH hne;clear hne;by_cases hcd:x.code=y.code
    ·have h1:(bL x.code).toList=(bL y.code).toList:=by rw[hcd]
     have h2:¬x.iss=y.iss:=fun e=>he (by cases x;cases y;simp only at hcd e;rw[hcd,e]);clear he hcd;go_wp2_with fail;go_quiet (fail);go_wp2;go_ret;exact⟨aJ (by rw[decide_eq_false HE.out]),F.drewN _⟩
    have h1:¬(bL x.code).toList=(bL y.code).toList:=by rw[bQ,bQ];exact hcd
    clear he hcd;go_wp2_with fail;go_quiet (fail);go_wp2;go_ret;exact⟨aJ (by rw[decide_eq_false HE.out]),F.drewN _⟩
   obtain rfl:k=n:=by omega
   go_wp2;go_ret;refine⟨aJ ?_,F⟩;symm;rw[decide_eq_true_iff];exact List.ext_getElem (by rw[←HN.out,←HN2.out]) (fun j h1 h2=>HH.out j h1 h2 (by have:=HN.out;omega))
 have hne:¬((a.length:Int)=(b.length:Int)):=by omega
 have HE:Hid (a≠b):=fun h=>hl (by rw[h]);clear hl;go_enter Tryz.func106,Tryz.ntmps106;go_wp2;go_ret;exact⟨aJ (by rw[decide_eq_false HE.out]),Fr.refl _ _⟩
def BO(a b:Opr):Bool:=(a.kind == b.kind)&&((a.to_ == b.to_)&&((a.amt == b.amt)&&((a.lim == b.lim)&&((decide (a.ast.code=b.ast.code)&&(a.ast.iss == b.ast.iss))&&((decide (a.oth.code=b.oth.code)&&(a.oth.iss == b.oth.iss))&&((a.num == b.num)&&((a.den == b.den)&&((a.id == b.id)&&decide (a.path=b.path)))))))))
theorem BP(a b:Opr):BO a b=decide (a=b):=by
 rw[Bool.eq_iff_iff];unfold BO;simp only[Bool.and_eq_true,beq_iff_eq,decide_eq_true_iff];constructor
 ·rintro⟨h1,h2,h3,h4,⟨h5,h5'⟩,⟨h6,h6'⟩,h7,h8,h9,h10⟩;obtain⟨k1,k2,k3,k4,⟨k5,k5'⟩,⟨k6,k6'⟩,k7,k8,k9,k10⟩:=a;obtain⟨l1,l2,l3,l4,⟨l5,l5'⟩,⟨l6,l6'⟩,l7,l8,l9,l10⟩:=b
  simp_all
 rintro rfl;simp
theorem Ai(x y:OpX)(w:World)(hx:OpD w none x)(hy:OpD w none y):Calls Tryz.prog 75 #[opV x.o x.v,opV y.o y.v] w fun e w'=>e= .returned (.bool (decide (x.o=y.o)))∧Fr none w w':=by
 rw[←BP];obtain⟨a,PA,pc⟩:=x;obtain⟨b,PB,pd⟩:=y;have hx:SlR cB w none (.slice PA a.path.length pc) a.path:=hx;have hy:SlR cB w none (.slice PB b.path.length pd) b.path:=hy;dsimp only[OpX.v];generalize a.path.length=pn at*
 generalize b.path.length=pm at*
 unfold opV;simp only[opL];go_enter Tryz.func75,Tryz.ntmps75;go_wp2_with (go_at_call 106;refine(Eg a.path b.path _ _ _ none (hx.fr (((Fr.refl none w).alloc _).alloc _)) (hy.fr (((Fr.refl none w).alloc _).alloc _))).mono ?_;rintro e w2 ⟨rfl,F2⟩);all_goals go_ret
 all_goals(refine⟨aJ ?_,?_⟩)
 all_goals(first|exact(((Fr.refl none w).alloc _).alloc _).pure (by assumption)|exact((Fr.refl none w).alloc _).alloc _|skip)
 all_goals(try clear hx hy)
 all_goals(try simp only[bQ] at*)
 all_goals(simp[BO, *])
theorem xI(x:OpX)(w:World)(hx:OpD w none x):Calls Tryz.prog 74 #[opV x.o x.v] w fun e w'=>e= .returned (plV x)∧Fr none w w':=by
 by_cases k1:x.o.kind=1
 ·exact vD x w hx k1
 by_cases k2:x.o.kind=2
 ·exact vE x w hx k2
 by_cases k3:x.o.kind=3
 ·exact vF x w hx k3
 by_cases k4:x.o.kind=4
 ·exact vG x w hx k4
 by_cases k5:x.o.kind=5
 ·exact vH x w hx k5
 by_cases k6:x.o.kind=6
 ·exact vI x w hx k6
 exact vC x w hx ⟨k1,k2,k3,k4,k5,k6⟩
def plX(x:OpX):OpX:=if x.o.kind=6 then⟨(plO x.o).1,x.A,x.c⟩ else⟨(plO x.o).1,none,0⟩
theorem lU(o:Opr):(plO o).1.path=if o.kind=6 then o.path else[]:=by
 unfold plO;by_cases k1:o.kind=1
 ·rw[if_pos k1,if_neg (by omega)];rfl
 rw[if_neg k1];by_cases k2:o.kind=2
 ·rw[if_pos k2,if_neg (by omega)];rfl
 rw[if_neg k2];by_cases k3:o.kind=3
 ·rw[if_pos k3,if_neg (by omega)];rfl
 rw[if_neg k3];by_cases k4:o.kind=4
 ·rw[if_pos k4,if_neg (by omega)];rfl
 rw[if_neg k4];by_cases k5:o.kind=5
 ·rw[if_pos k5,if_neg (by omega)];rfl
 rw[if_neg k5];by_cases k6:o.kind=6
 ·rw[if_pos k6,if_pos k6]
 rw[if_neg k6,if_neg k6];rfl
theorem BQ(x:OpX):(plX x).o=(plO x.o).1:=by unfold plX;split<;>rfl
theorem FL(x:OpX):(plX x).v=if x.o.kind=6 then x.v else .slice none 0 0:=by
 unfold plX;by_cases k:x.o.kind=6
 ·rw[if_pos k,if_pos k];unfold OpX.v;simp only;rw[lU,if_pos k]
 rw[if_neg k,if_neg k];unfold OpX.v;simp only;rw[lU,if_neg k];rfl
theorem Hp{w:World}{x:OpX}(h:OpD w none x):OpD w none (plX x):=by
 unfold OpD;rw[FL,BQ,lU];by_cases k:x.o.kind=6
 ·rw[if_pos k,if_pos k];exact h
 rw[if_neg k,if_neg k];exact SlR.nil _ _ _
theorem Hq(x:OpX):plV x= .tuple #[opV (plX x).o (plX x).v,.bool (plO x.o).2]:=by
 unfold plV;rw[BQ,FL]
theorem rD(x:OpX)(w:World)(hx:OpD w none x):Calls Tryz.prog 40 #[opV x.o x.v] w fun e w'=>e= .returned (.bool (vOp x.o))∧Fr none w w':=by
 have HX:=sH hx;clear hx;unfold opV;simp only[opL];go_enter Tryz.func40,Tryz.ntmps40;go_upto_region 1 with(fail)
 generalize hW:w.alloc _=w1;have F1:Fr none w w1:=hW▸(Fr.refl none w).alloc _;have b1:OpB w1 w.heap.size x.o x.v:=by rw[←hW];exact aD _ _
 clear hW;obtain⟨e0,e1,e2,e3,e4,e5,e6,e7,e8,e9,e10,e11⟩:=b1.cells;go_wp2_with fail;refine(xI x w1 (SlR.fr HX.out F1)).mono ?_;rintro e w2 ⟨rfl,F2⟩;rw[Hq];have HY:=sH (Hp (SlR.fr (SlR.fr HX.out F1) F2):OpD w2 none (plX x));have HVO:Hid (vOp x.o=((plO x.o).2&&decide ((plX x).o=x.o))):=by unfold Hid vOp;rw[BQ]
 have b1:=b1.fr F2;generalize plX x=y at*
 generalize(plO x.o).2=t at*
 obtain⟨u,hu⟩:∃u,u=decide (y.o=x.o):=⟨_,rfl⟩;have HU:=sH hu;clear hu;clear e0 e1 e2 e3 e4 e5 e6 e7 e8 e9 e10 e11;obtain⟨e0,e1,e2,e3,e4,e5,e6,e7,e8,e9,e10,e11⟩:=b1.cells;unfold opV;simp only[opL];have yv:y.v= .slice y.A y.o.path.length y.c:=rfl;rw[yv];go_upto_region 2 with(fail)
 generalize hW:w2.alloc _=w3;have F3:Fr none w2 w3:=hW▸(Fr.refl none w2).alloc _;have b2:OpB w3 w2.heap.size y.o y.v:=by rw[←hW];exact aD _ _
 have b1:=b1.fr F3;clear hW yv;clear e0 e1 e2 e3 e4 e5 e6 e7 e8 e9 e10 e11;obtain⟨e0,e1,e2,e3,e4,e5,e6,e7,e8,e9,e10,e11⟩:=b1.cells;obtain⟨d0,d1,d2,d3,d4,d5,d6,d7,d8,d9,d10,d11⟩:=b2.cells;cases t with
 |false=>
  go_wp2;go_ret;refine⟨aJ ?_,(F1.pure F2).pure F3⟩;rw[HVO.out];rfl
 |true=>
  go_wp2_with fail;refine(Ai y x w3 (SlR.fr HY.out F3) (SlR.fr (SlR.fr (SlR.fr HX.out F1) F2) F3)).mono ?_;rintro e w4 ⟨rfl,F4⟩;go_wp2;go_ret;refine⟨aJ ?_,((F1.pure F2).pure F3).pure F4⟩;rw[HVO.out];rfl
theorem Aj(x:OpX)(w:World)(hx:OpD w none x):Calls Tryz.prog 62 #[opV x.o x.v] w fun e w'=>e= .returned (.bool (!vOp x.o))∧Fr none w w':=by
 have HX:=sH hx;clear hx;unfold opV;simp only[opL];go_enter Tryz.func62,Tryz.ntmps62;go_upto_region 1 with(fail)
 generalize hW:w.alloc _=w1;have F1:Fr none w w1:=hW▸(Fr.refl none w).alloc _;have b1:OpB w1 w.heap.size x.o x.v:=by rw[←hW];exact aD _ _
 clear hW;obtain⟨e0,e1,e2,e3,e4,e5,e6,e7,e8,e9,e10,e11⟩:=b1.cells;go_wp2_with fail;refine(rD x w1 (SlR.fr HX.out F1)).mono ?_;rintro e w2 ⟨rfl,F2⟩;go_wp2;go_ret;exact⟨rfl,F1.pure F2⟩
theorem tD:∀args w,Sem.run Tryz.prog (callFunc 62 args) w= .ok (.enter 62 args) w:=fun _ _=>by kernel_rfl
theorem tE(t:TxX):vTx t.pl=(inR t.src 1 1000&&(inR t.seq 1 1000000&&(inR t.fee 1 100000&&(inR (t.ops.length:Int) 1 4&& !(t.ops.any fun x=> !vOp x.o))))):=by
 unfold vTx TxX.pl;simp only[List.length_map];rw[eB,List.all_map];rfl
theorem vJ(t:TxX)(w:World)(h:TxD w none t):Calls Tryz.prog 31 #[txV t] w fun e w'=>e= .returned (.bool (vTx t.pl))∧Fr none w w':=by
 have hX:=tE t;obtain⟨V,hV⟩:∃V,V=vTx t.pl:=⟨_,rfl⟩;rw[←hV] at hX ⊢;clear hV;have HX:=sH hX;clear hX;have HD:=sH h;clear h;unfold txV;go_enter Tryz.func31,Tryz.ntmps31;go_upto_region 1 with(fail)
 generalize hW:w.alloc _=w1;have F1:Fr none w w1:=hW▸(Fr.refl none w).alloc _;have b1:TxB w1 w.heap.size t:=by rw[←hW];exact aD _ _
 clear hW;obtain⟨e0,e1,e2,e3⟩:=bD b1;clear b1;go_wp2_with fail;refine(cT t.src 1 1000 w1).mono ?_;rintro e w2 ⟨rfl,rfl⟩;generalize inR t.src 1 1000=a1 at*
 cases a1 with
 |false=>
  go_wp2;go_ret;exact⟨aJ (by rw[HX.out];rfl),F1⟩
 |true=>
  go_wp2_with fail;refine(cT t.seq 1 1000000 _).mono ?_;rintro e w3 ⟨rfl,rfl⟩;generalize inR t.seq 1 1000000=a2 at*
  cases a2 with
  |false=>
   go_wp2;go_ret;exact⟨aJ (by rw[HX.out];rfl),F1⟩
  |true=>
   go_wp2_with fail;refine(cT t.fee 1 100000 _).mono ?_;rintro e w3 ⟨rfl,rfl⟩;generalize inR t.fee 1 100000=a3 at*
   cases a3 with
   |false=>
    go_wp2;go_ret;exact⟨aJ (by rw[HX.out];rfl),F1⟩
   |true=>
    go_wp2_with fail;refine(cT (t.ops.length:Int) 1 4 _).mono ?_;rintro e w3 ⟨rfl,rfl⟩;generalize inR (t.ops.length:Int) 1 4=a4 at*
    cases a4 with
    |false=>
     go_wp2;go_ret;exact⟨aJ (by rw[HX.out];rfl),F1⟩
    |true=>
     go_wp2_with fail;refine(Ec (fun x=> !vOp x.o) 62 #[] tD t.ops _ _ (HD.out.1.fr F1) (fun y hy W FW=>Aj y W ((HD.out.2 y hy).fr (F1.pure FW)))).mono ?_;rintro e w3 ⟨rfl,F3⟩;generalize(t.ops.any fun x=> !vOp x.o)=a5 at*
     go_wp2;go_ret;exact⟨aJ (by rw[HX.out];rfl),F1.pure F3⟩
theorem Ak(t:TxX)(w:World)(h:TxD w none t):Calls Tryz.prog 72 #[txV t] w fun e w'=>e= .returned (.bool (!vTx t.pl))∧Fr none w w':=by
 have HD:=sH h;clear h;unfold txV;go_enter Tryz.func72,Tryz.ntmps72;go_upto_region 1 with(fail)
 generalize hW:w.alloc _=w1;have F1:Fr none w w1:=hW▸(Fr.refl none w).alloc _;have b1:TxB w1 w.heap.size t:=by rw[←hW];exact aD _ _
 clear hW;obtain⟨e0,e1,e2,e3⟩:=bD b1;clear b1;go_wp2_with fail;refine(vJ t w1 (HD.out.fr F1)).mono ?_;rintro e w2 ⟨rfl,F2⟩;go_wp2;go_ret;exact⟨rfl,F1.pure F2⟩
theorem tF:∀args w,Sem.run Tryz.prog (callFunc 72 args) w= .ok (.enter 72 args) w:=fun _ _=>by kernel_rfl
theorem BR{l:List TxX}(h:12<l.length):cS (plT l)=3:=by unfold cS plT;rw[List.length_map,if_pos h]
theorem BS{l:List TxX}(h:¬12<l.length)(k:(l.any fun t=> !vTx t.pl)=true):cS (plT l)=1:=by
 unfold cS plT;rw[List.length_map,if_neg h,if_pos];rw[List.all_map];rw[←Bool.not_eq_true',←eB];simpa using k
theorem oC{l:List TxX}{k:Nat}(hk:k<l.length):(plT l)[k]'(by unfold plT;simpa using hk)=l[k].pl:=by unfold plT;simp
theorem Eh{l:List TxX}(h:¬12<l.length)(k:(l.any fun t=> !vTx t.pl)=false)(ho:∀j (hj:j<l.length) (h0:0<j),nQ (l[j - 1]'(by omega)).pl l[j].pl=true):cS (plT l)=0:=by
 unfold cS;have hall:(plT l).all vTx=true:=by
  unfold plT;rw[List.all_map];have:=eB (fun t:TxX=>vTx t.pl) l;rw[k] at this;exact this.symm
 rw[show(plT l).length=l.length by unfold plT;simp,if_neg h,hall,if_neg (by simp),if_pos];refine eZ fun j hj=>?_;have hj':j<l.length:=by unfold plT at hj;simpa using hj
 rw[oC hj'];unfold bK;by_cases h0:j=0
 ·rw[if_pos h0];rfl
 rw[if_neg h0];have:(plT l)[j - 1]?=some (l[j - 1]'(by omega)).pl:=by
  rw[List.getElem?_eq_getElem (by unfold plT;simp;omega),oC (by omega)]
 rw[this];exact ho j hj' (by omega)
theorem BT{l:List TxX}(h:¬12<l.length)(k:(l.any fun t=> !vTx t.pl)=false)(j:Nat)(hj:j<l.length)(h0:0<j)(ho:nQ (l[j - 1]'(by omega)).pl l[j].pl=false):cS (plT l)=7:=by
 unfold cS;have hall:(plT l).all vTx=true:=by
  unfold plT;rw[List.all_map];have:=eB (fun t:TxX=>vTx t.pl) l;rw[k] at this;exact this.symm
 rw[show(plT l).length=l.length by unfold plT;simp,if_neg h,hall,if_neg (by simp),if_neg];have hj2:j<(plT l).length:=by unfold plT;simpa using hj
 rw[gC hj2]
 ·simp
 rw[oC hj];unfold bK;rw[if_neg (by omega)];have:(plT l)[j - 1]?=some (l[j - 1]'(by omega)).pl:=by
  rw[List.getElem?_eq_getElem (by unfold plT;simp;omega),oC (by omega)]
 rw[this];exact ho
theorem lV(l:List TxX)(v:Value)(w:World)(h:SlT w none v l):Calls Tryz.prog 39 #[v] w fun e w'=>e= .returned (.int .i64 (cS (plT l)))∧Fr none w w':=by
 obtain⟨A,c,hv,q1,q2,hc⟩:=iO h.1;subst hv;have HC:=sH hc;have HT:=sH h;clear h hc;by_cases h12:12<l.length
 ·have hl:(12:Int)<(l.length:Int):=by omega
  have HX:Hid (cS (plT l)=3):=BR h12;clear h12;go_enter Tryz.func39,Tryz.ntmps39;go_wp2;go_ret;exact⟨aM HX.out.symm,Fr.refl _ _⟩
 have hl:¬(12:Int)<(l.length:Int):=by omega
 have H12:=sH h12;clear h12;go_enter Tryz.func39,Tryz.ntmps39;go_wp2_with fail;refine(Ee (fun t=> !vTx t.pl) 72 #[] tF l _ w HT.out.1 (fun y hy W FW=>Ak y W ((HT.out.2 y hy).fr FW))).mono ?_;rintro e w1 ⟨rfl,F1⟩;cases ha:(l.any fun t=> !vTx t.pl) with
 |true=>
  have HX:Hid (cS (plT l)=1):=BS H12.out ha;clear ha;go_wp2;go_ret;exact⟨aM HX.out.symm,F1⟩
 |false=>
  have HA:=sH ha;clear ha;go_wp2_with fail;go_loopw [3] (fun i wr=>∃m:Nat,(m+1≤l.length∨m=0)∧i= .int .i64 ((m:Int)+1)∧Fr none w1 wr∧Hid (∀j (hj:j<l.length) (h0:0<j),j<m+1→nQ (l[j - 1]'(by omega)).pl l[j].pl=true)) (fun i _=>l.length - (intOf i).toNat)
  case atStart=>exact⟨0,.inr rfl,rfl,Fr.refl _ _,sH (fun j hj h0 h=>by omega)⟩
  case round=>
   obtain⟨m,hm,rfl,F,HN⟩:=hrel;by_cases hlt:m+1<l.length
   ·obtain⟨b,off,rfl,hb,_,hcc⟩:=HC.out (by omega);obtain⟨x0,x1,x2,x3⟩:=hcc m (by omega);obtain⟨y0,y1,y2,y3⟩:=hcc (m+1) hlt;have FF:=F1.pure F;have x0:=FF.keep x0;have x1:=FF.keep x1;have x2:=FF.keep x2;have x3:=FF.keep x3;have y0:=FF.keep y0;have y1:=FF.keep y1;have y2:=FF.keep y2;have y3:=FF.keep y3;clear hcc;obtain⟨x,hx⟩:∃x,x=l[m]'(by omega):=⟨_,rfl⟩;obtain⟨y,hy⟩:∃y,y=l[m+1]'hlt:=⟨_,rfl⟩;rw[←hx] at x0 x1 x2 x3;rw[←hy] at y0 y1 y2 y3;unfold TxX.v at x3 y3;have HX:=sH hx;have HY:=sH hy;clear hx hy hm;have hsub:IntKind.i64.wrap (m:Int)=(m:Int):=IntWalk.i64_in _ (by omega);have hn1:(0:Int)≤(m:Int):=by omega
    have hn2:(0:Int)≤(m:Int)+1:=by omega
    have hlt1:(m:Int)<(l.length:Int):=by omega
    have hlt2:(m:Int)+1<(l.length:Int):=by omega
    go_wp2_with fail;refine aL (fun W=>Fr none wr W) 11 28 [some 27,some 26,some 25,some 24,some 23,some 22,some 21,some 20,some 19,some 18,some 17] (by kernel_rfl) (by kernel_rfl) (by kernel_rfl) (Nat.le_refl _) ((Fr.refl _ _).drew) ?_;refine FxL.p [] [0] ?_;refine FxL.p [] [3] ?_;refine FxL.p [(0,1,18)] [] ?_;have HF1:=sH (fun(w:World) (hS:(fun W=>Fr none wr W) w)=>And.intro (hS.keep x0) (And.intro (hS.keep x1) (And.intro (hS.keep x2) (And.intro (hS.keep x3) (And.intro (hS.keep y0) (And.intro (hS.keep y1) (And.intro (hS.keep y2) (hS.keep y3))))))));refine FxL.q HF1.out [(2,0,17),(0,2,19)] [] ?_;refine FxL.q HF1.out [(0,3,20)] [] ?_;refine FxL.p [] [0] ?_;refine FxL.p [] [3] ?_;refine FxL.q HF1.out [(1,5,22),(0,6,23)] [] ?_;refine FxL.q HF1.out [(0,7,24)] [] ?_;refine FxL.c [(4,4,21),(0,8,25)] [] (fun w hS=>Bs x y w) ?_;refine FxL.p [(0,9,26)] [] ?_;refine FxL.done (fun W hW=>?_);simp only[bF];try simp only[sI]
    try simp only[sK]
    have HG:=sH (Br x y);generalize decide (0≤zS x y)=g at*
    cases g with
    |true=>
     have HL:Hid (nQ x.pl y.pl=false):=by unfold Hid;rw[←Bool.not_eq_true',←HG.out]
     have HX0:Hid (cS (plT l)=7):=BT H12.out HA.out (m+1) hlt (by omega) (by have:=HL.out;rw[HX.out,HY.out] at this;exact this);go_wp2;go_ret;exact⟨aM HX0.out.symm,FF.pure hW⟩
    |false=>
     have HL:Hid (nQ x.pl y.pl=true):=by have:=HG.out;unfold Hid;simpa using this.symm
     go_wp2_with fail;go_roundw
     case rel=>exact⟨m+1,.inl (by omega),by go_num,F.pure hW,fun j hj h0 hjm=>by
      by_cases e:j=m+1
      ·subst e;have:=HL.out;rw[HX.out,HY.out] at this;exact this
      exact HN.out j hj h0 (by omega)⟩
     case measure=>simp[intOf];omega
   have HX:Hid (cS (plT l)=0):=Eh H12.out HA.out fun j hj h0=>HN.out j hj h0 (by omega);go_wp2;go_ret;exact⟨aM HX.out.symm,F1.pure F⟩
theorem BU{l:List TxX}(h:cS (plT l)=0):l.length≤12∧∀t ∈ l,vTx t.pl=true:=by
 unfold cS at h;by_cases h1:12<(plT l).length
 ·rw[if_pos h1] at h;cases h
 rw[if_neg h1] at h;refine⟨by unfold plT at h1;simp at h1;omega,fun t ht=>?_⟩;cases ha:(plT l).all vTx with
 |false=>rw[ha,if_pos rfl] at h;cases h
 |true=>exact List.all_eq_true.1 ha t.pl (List.mem_map_of_mem ht)
theorem kO{t:TxX}(h:vTx t.pl=true):Wi t.src∧Wi t.seq∧Wi t.fee∧t.ops.length≤4∧∀x ∈ t.ops,vOp x.o=true:=by
 rw[tE] at h;simp only[Bool.and_eq_true,eF,eB] at h;obtain⟨h1,h2,h3,h4,h5⟩:=h;exact⟨gP h1.1 h1.2 (by decide) (by decide),gP h2.1 h2.2 (by decide) (by decide),gP h3.1 h3.2 (by decide) (by decide),by omega,fun x hx=>List.all_eq_true.1 h5 x hx⟩
def hdT(t:TxX):List (List UInt8):=[Lib.itoa t.src,Lib.itoa t.seq,Lib.itoa t.fee]
theorem yN(t:TxX):sR t.pl=hdT t++t.ops.map (fun x=>fZ x.o):=by
 unfold sR TxX.pl hdT;simp[List.map_map,Function.comp_def]
theorem yO{t:TxX}(h:vTx t.pl=true):∀y ∈ hdT t++t.ops.map (fun x=>fZ x.o),y.length≤400:=by
 obtain⟨h1,h2,h3,h4,h5⟩:=kO h;have l1:=cK h1;have l2:=cK h2;have l3:=cK h3;intro y hy;rcases List.mem_append.1 hy with hy|hy
 ·unfold hdT at hy;simp only[List.mem_cons,List.not_mem_nil,or_false] at hy;rcases hy with rfl|rfl|rfl<;>omega
 obtain⟨x,hx,rfl⟩:=List.mem_map.1 hy;exact BN (h5 x hx)
theorem vK{t:TxX}(h:vTx t.pl=true):(iY t.pl).length≤3000:=by
 have h1:=nZ [32] (by simp) 400 _ (yO h);have h4:=(kO h).2.2.2.1;unfold iY;rw[yN];simp only[List.length_append,List.length_map,hdT,List.length_cons,List.length_nil] at h1 ⊢;have:(3+t.ops.length)*401≤7*401:=Nat.mul_le_mul_right _ (by omega);omega
theorem yP(l:List TxX)(v:Value)(w:World)(h:SlT w none v l)(hv:cS (plT l)=0)(hT:Tab w)(hXT:∀t ∈ l,∀x ∈ t.ops,TxC x.o):Calls Tryz.prog 70 #[v] w fun e w'=>e= .returned (.string (bL (fK (plT l))))∧Fr none w w':=by
 have HXT:=sH hXT;clear hXT;obtain⟨h12,hall⟩:=BU hv;clear hv;have HALL:=sH hall;have HTT:=sH hT;obtain⟨A,c,hvv,q1,q2,hc⟩:=iO h.1;subst hvv;have HC:=sH hc;have HD:=sH h.2;clear h hc hall hT;by_cases hl:l.length=0
 ·have hnil:l=[]:=List.eq_nil_of_length_eq_zero hl;subst hnil;go_enter Tryz.func70,Tryz.ntmps70;go_wp2;go_ret;exact⟨rfl,Fr.refl _ _⟩
 have hne:((l.length:Int) == 0)=false:=by rw[beq_eq_false_iff_ne];omega
 have HX:Hid (fK (plT l)=Lib.join (l.map fun t=>iY t.pl) [124]):=by
  unfold Hid fK;rw[if_neg (by unfold plT;intro e;have:=congrArg List.length e;simp at this;exact hl (by rw[this];rfl))];unfold plT;rw[List.map_map];rfl
 clear hl;go_enter Tryz.func70,Tryz.ntmps70;go_wp2_with fail;go_loopw [3,14] (fun s3 s14 wr=>∃(k:Nat) (B:Option Addr) (d:Nat),k≤l.length∧s14= .int .i64 (k:Int)∧s3= .slice B k d∧Fr none w wr∧wr.ownsRow w.heap.size 9 1 (.slice B k d) k (((l.take k).map fun t=>iY t.pl).map fun x=>Value.string (bL x))) (fun _ s14 _=>l.length - (intOf s14).toNat)
 case atStart=>exact⟨0,none,0,Nat.zero_le _,rfl,rfl,Fr.refl _ _,World.ownsRow_nil _ _ _ _⟩
 case round=>
  obtain⟨k,B,d,hk,rfl,rfl,F,own⟩:=hrel;by_cases hlt:k<l.length
  ·obtain⟨b,off,rfl,hb,_,hcc⟩:=HC.out (by omega);obtain⟨d0,d1,d2,d3⟩:=hcc k hlt;have d0:=F.keep d0;have d1:=F.keep d1;have d2:=F.keep d2;have d3:=F.keep d3;have HDy:=sH (HD.out _ (List.getElem_mem hlt));have HVy:=sH (HALL.out _ (List.getElem_mem hlt));have HXy:=sH (HXT.out _ (List.getElem_mem hlt));have HSt:Hid (((l.take (k+1)).map fun t=>iY t.pl).map (fun x=>Value.string (bL x))=((l.take k).map fun t=>iY t.pl).map (fun x=>Value.string (bL x))++[Value.string (bL (iY l[k].pl))]):=by
    unfold Hid;rw[List.take_succ_eq_append_getElem hlt];simp only[List.map_append];rfl
   clear hcc;generalize l[k]=y at*
   unfold TxX.v at d3;obtain⟨p1,p2,p3,p4,p5⟩:=kO HVy.out;have HWD:=sH (yO HVy.out);have HTJ:Hid (Lib.join (hdT y++y.ops.map fun x=>fZ x.o) [32]=iY y.pl):=by unfold Hid iY;rw[yN]
   have HTL:=sH (vK HVy.out);clear HVy;obtain⟨ys,yq,yf,yo,yA,yc⟩:=y;dsimp only at d0 d1 d2 d3 p1 p2 p3 p4 p5;have HP:=sH (And.intro p1 (And.intro p2 p3));have HO:=sH p5;clear p1 p2 p3 p5;go_upto_region 7 with(fail)
   generalize hWa:wr.alloc _=wa;have Fa:Fr none wr wa:=hWa▸(Fr.refl none wr).alloc _;have b5:TxB wa wr.heap.size ⟨ys,yq,yf,yo,yA,yc⟩:=by rw[←hWa];exact aD _ _
   clear hWa d0 d1 d2 d3;have FFa:=F.pure Fa;have HTa:Hid (Tab wa):=HTT.out.fr FFa;have owna:=aR own Fa (by simp);clear own F Fa;refine aL (fun W=>Fr none wa W) 9 49 [some 26,some 25,some 24,some 23,some 22,some 21,some 20,some 19,some 18] (by kernel_rfl) (by kernel_rfl) (by kernel_rfl) (Nat.le_refl _) ((Fr.refl _ _).drew) ?_;refine FxL.p [] [5] ?_;have HF1:=sH (fun(w:World) (hS:(fun W=>Fr none wa W) w)=>bD (b5.fr hS));refine FxL.q HF1.out [(0,0,18)] [] ?_;refine FxL.c [(0,1,19)] [] (fun w hS=>gD ys HP.out.1 w (HTa.out.fr hS)) ?_;refine FxL.p [] [5] ?_;refine FxL.q HF1.out [(0,3,21)] [] ?_;refine FxL.c [(0,4,22)] [] (fun w hS=>gD yq HP.out.2.1 w (HTa.out.fr hS)) ?_;refine FxL.p [] [5] ?_;refine FxL.q HF1.out [(0,6,24)] [] ?_;refine FxL.c [(0,7,25)] [] (fun w hS=>gD yf HP.out.2.2 w (HTa.out.fr hS)) ?_;refine FxL.done (fun W hW=>?_);simp only[bF];try simp only[sI]
   try simp only[sK]
   have b6:=b5.fr hW;obtain⟨e0,e1,e2,e3⟩:=bD b6;dsimp only at e0 e1 e2 e3;have el:=b6.lt;go_wp2_with fail;obtain⟨oB,⟨oc,hov,oq1,oq2,ohc⟩⟩:=oS HDy.out.1;dsimp only at ohc;have HOC:=sH ohc;unfold TxX.v at hov;injection hov with ov1 ov2 ov3
   subst ov1 ov3;clear e0 e1 e2 e3 el b6 b5 ohc ov2;generalize hWl:W.alloc _=wl;have own0:wl.ownsRow W.heap.size 9 1 (.slice (some ⟨W.heap.size,0,none⟩) 3 3) 3 ((hdT ⟨ys,yq,yf,yo,yA,yc⟩).map fun x=>Value.string (bL x)):=by
    rw[←hWl];exact World.ownsRow_lit W _ 3 (Nat.le_refl _) (by unfold maxLen;omega) rfl
   have Fl:Fr none W wl:=hWl▸(Fr.refl none W).alloc _;have FW:=FFa.pure hW;have ownW:=aR owna hW (by simp);have hwW:=FW.size;have HT2:Hid (Tab W):=HTT.out.fr FW;clear hWl hW owna FFa HTa;go_loopw [6,31] (fun s6 s31 wr=>∃(j n:Nat) (B1:Option Addr) (d1:Nat),j≤yo.length∧Hid (n=3+j)∧s31= .int .i64 (j:Int)∧s6= .slice B1 n d1∧Fr none W wr∧wr.ownsRow W.heap.size 9 1 (.slice B1 n d1) n ((hdT ⟨ys,yq,yf,yo,yA,yc⟩++(yo.take j).map fun x=>fZ x.o).map fun x=>Value.string (bL x))) (fun _ s31 _=>yo.length - (intOf s31).toNat)
   case atStart=>exact⟨0,3,_,_,Nat.zero_le _,rfl,rfl,rfl,Fl,by simpa using own0⟩
   case round=>
    obtain⟨j,n,B1,d1,hj,HN,rfl,rfl,Fj,ownj⟩:=hrel;clear own0 Fl;have hn7:n≤7:=by have:=HN.out;omega
    have FFj:=FW.pure Fj;by_cases hjl:j<yo.length
    ·obtain⟨b2,off2,rfl,hb2,_,hxx⟩:=HOC.out (by omega);have hxx:=hxx j hjl;have HVx:=sH (HO.out _ (List.getElem_mem hjl));have HXx:=sH (HXy.out _ (List.getElem_mem hjl));have HDx:=sH (HDy.out.2 _ (List.getElem_mem hjl));have HSj:Hid ((hdT ⟨ys,yq,yf,yo,some ⟨b2,off2,none⟩,yc⟩++(yo.take (j+1)).map fun x=>fZ x.o).map (fun x=>Value.string (bL x))=(hdT ⟨ys,yq,yf,yo,some ⟨b2,off2,none⟩,yc⟩++(yo.take j).map fun x=>fZ x.o).map (fun x=>Value.string (bL x))++[Value.string (bL (fZ yo[j].o))]):=by
      unfold Hid;rw[List.take_succ_eq_append_getElem hjl];simp only[List.map_append,List.append_assoc];rfl
     try dsimp only at HDx HXx
     obtain⟨x,hx⟩:∃x,x=yo[j]:=⟨_,rfl⟩;rw[←hx] at hxx HVx HDx HSj HXx;clear hx;have c0:World.cell? wr ⟨b2,off2+j*12,none⟩=some (.int .i64 x.o.kind):=FFj.keep (hxx 0 _ rfl);have c1:World.cell? wr ⟨b2,off2+j*12+1,none⟩=some (.int .i64 x.o.to_):=FFj.keep (hxx 1 _ rfl);have c2:World.cell? wr ⟨b2,off2+j*12+2,none⟩=some (.int .i64 x.o.amt):=FFj.keep (hxx 2 _ rfl);have c3:World.cell? wr ⟨b2,off2+j*12+3,none⟩=some (.int .i64 x.o.lim):=FFj.keep (hxx 3 _ rfl);have c4:World.cell? wr ⟨b2,off2+j*12+4,none⟩=some (.string (bL x.o.ast.code)):=FFj.keep (hxx 4 _ rfl);have c5:World.cell? wr ⟨b2,off2+j*12+5,none⟩=some (.int .i64 x.o.ast.iss):=FFj.keep (hxx 5 _ rfl);have c6:World.cell? wr ⟨b2,off2+j*12+6,none⟩=some (.string (bL x.o.oth.code)):=FFj.keep (hxx 6 _ rfl);have c7:World.cell? wr ⟨b2,off2+j*12+7,none⟩=some (.int .i64 x.o.oth.iss):=FFj.keep (hxx 7 _ rfl);have c8:World.cell? wr ⟨b2,off2+j*12+8,none⟩=some (.int .i64 x.o.num):=FFj.keep (hxx 8 _ rfl);have c9:World.cell? wr ⟨b2,off2+j*12+9,none⟩=some (.int .i64 x.o.den):=FFj.keep (hxx 9 _ rfl);have c10:World.cell? wr ⟨b2,off2+j*12+10,none⟩=some (.int .i64 x.o.id):=FFj.keep (hxx 10 _ rfl);have c11:World.cell? wr ⟨b2,off2+j*12+11,none⟩=some (.slice x.A x.o.path.length x.c):=FFj.keep (hxx 11 _ rfl);clear hxx;go_upto_region 11 with(fail)
     generalize hWb:wr.alloc _=wb;have Fb:Fr none wr wb:=hWb▸(Fr.refl none wr).alloc _;have b7:OpB wb wr.heap.size x.o x.v:=by rw[←hWb];exact aD _ _
     clear hWb c0 c1 c2 c3 c4 c5 c6 c7 c8 c9 c10 c11;obtain⟨e0,e1,e2,e3,e4,e5,e6,e7,e8,e9,e10,e11⟩:=b7.cells;clear b7;go_wp2_with fail;refine(HXx.out x rfl wb (SlR.fr HDx.out (FFj.pure Fb)) HVx.out (HT2.out.fr (Fj.pure Fb))).mono ?_;rintro e w5 ⟨rfl,F5⟩;clear e0 e1 e2 e3 e4 e5 e6 e7 e8 e9 e10 e11;have own5:=aR (aR ownj Fb (by simp)) F5 (by simp);have FF5:=(Fj.pure Fb).pure F5;have hbz:=FF5.size;clear ownj Fb F5 Fj FFj;go_wp2_with (at_builtin;refine iW BJ rfl _ _ rfl W.heap.size B1 n d1 _ rfl own5 1 [.string (bL (fZ x.o))] _ _ rfl (by simp) rfl (by simp[Value.oneCell']) (by omega) (by unfold maxLen;omega) (by omega) ?_;intro A6 c6 w6 own6 F6 nb6);go_roundw
     case rel=>
      refine⟨j+1,n+1,A6,c6,by omega,by have:=HN.out;unfold Hid;omega,by go_num,rfl,FF5.own F6 (fun g hg=>bH own5 g hg),?_⟩;rw[HSj.out];exact own6
     case measure=>simp[intOf];omega
    obtain rfl:j=yo.length:=by omega
    have hfull:yo.take yo.length=yo:=List.take_of_length_le (Nat.le_refl _);rw[hfull] at ownj;clear hfull;go_wp2_with fail;refine(mP 32 _ _ (Dm wr none) wr (SlD.of_own ownj (by simp)) (fun b hb=>hb.1) (by simp[hdT];omega) (by
     have:=HTL.out;rw[←HTJ.out] at this;try dsimp only at this ⊢
     omega)).mono ?_
    rintro e w9 ⟨rfl,F9⟩;have hJ9:=HTJ.out;try dsimp only at hJ9
    rw[hJ9];clear hJ9;have own9:=aR (aR ownW Fj (by simp)) F9 (by simp);have FF9:=FFj.pure F9;have hbz:=FF9.size;clear ownj ownW Fj FFj F9 FW;go_wp2_with (at_builtin;refine iW BJ rfl _ _ rfl w.heap.size B k d _ rfl own9 1 [.string (bL (iY (TxX.pl ⟨ys,yq,yf,yo,yA,yc⟩)))] _ _ rfl (by simp) rfl (by simp[Value.oneCell']) (by omega) (by unfold maxLen;omega) (by omega) ?_;intro A6 c6 w6 own6 F6 nb6);go_roundw
    case rel=>
     refine⟨k+1,A6,c6,by omega,by go_num,rfl,FF9.own F6 (fun g hg=>bH own9 g hg),?_⟩;rw[HSt.out];exact own6
    case measure=>simp[intOf];omega
  obtain rfl:k=l.length:=by omega
  have hfull:l.take l.length=l:=List.take_of_length_le (Nat.le_refl _);rw[hfull] at own;have HLN:Hid (∀y ∈ l.map fun t=>iY t.pl,y.length≤3000):=by
   intro y hy;obtain⟨t,ht,rfl⟩:=List.mem_map.1 hy;exact vK (HALL.out t ht)
  clear hfull;go_wp2_with fail;refine(mP 124 _ _ (Dm wr none) wr (SlD.of_own own (by simp)) (fun b hb=>hb.1) (by simp;omega) (by
   have:=nZ [124] (by simp) 3000 _ HLN.out;rw[List.length_map] at this;have:l.length*(3000+1)≤12*3001:=Nat.mul_le_mul_right _ h12;omega)).mono ?_
  rintro e w9 ⟨rfl,F9⟩;go_wp2;go_ret;exact⟨by rw[HX.out];rfl,F.pure F9⟩
def fmS(L:List Txn):List UInt8 × Int:=if cS L≠0 then([],cS L) else if 200<(fK L).length then([],3) else(fK L,0)
theorem BV(l:List TxX)(v:Value)(w:World)(h:SlT w none v l)(hT:Tab w)(hXT:∀t ∈ l,∀x ∈ t.ops,TxC x.o):Calls Tryz.prog 38 #[v] w fun e w'=>e= .returned (.tuple #[.string (bL (fmS (plT l)).1),.int .i64 (fmS (plT l)).2])∧Fr none w w':=by
 have HXT:=sH hXT;clear hXT;have HH:=sH h;have HT:=sH hT;obtain⟨A,c,hvv,q1,q2,_⟩:=iO h.1;subst hvv;clear h hT;go_enter Tryz.func38,Tryz.ntmps38;go_wp2_with fail;refine(lV l _ w HH.out).mono ?_;rintro e w1 ⟨rfl,F1⟩;by_cases hc:cS (plT l)=0
 ·have HC:=sH hc;rw[hc];clear hc;go_wp2_with fail;refine(yP l _ w1 (HH.out.fr F1) HC.out (HT.out.fr F1) HXT.out).mono ?_;rintro e w2 ⟨rfl,F2⟩;have hsz:((bL (fK (plT l))).size:Int)=((fK (plT l)).length:Int):=by rw[dB]
  by_cases h200:200<(fK (plT l)).length
  ·have HX:Hid (fmS (plT l)=([],3)):=by unfold Hid fmS;rw[if_neg (by rw[HC.out];simp),if_pos h200]
   generalize fK (plT l)=S at*
   have h2:(200:Int)<((bL S).size:Int):=by rw[hsz];omega
   go_wp2_with fail;go_ret2;exact⟨by rw[HX.out];rfl,F1.pure F2⟩
  have HX:Hid (fmS (plT l)=(fK (plT l),0)):=by unfold Hid fmS;rw[if_neg (by rw[HC.out];simp),if_neg h200]
  generalize fK (plT l)=S at*
  have h2:¬(200:Int)<((bL S).size:Int):=by rw[hsz];omega
  go_wp2_with fail;go_ret2;exact⟨by rw[HX.out];rfl,F1.pure F2⟩
 have HX:Hid (fmS (plT l)=([],cS (plT l))):=by unfold Hid fmS;rw[if_pos hc]
 have hne:(cS (plT l) == 0)=false:=by rw[beq_eq_false_iff_ne];exact hc
 have hne2:(cS (plT l) !=0)=true:=by rw[bne,hne];rfl
 generalize cS (plT l)=C at*
 clear hc;go_wp2_with fail;go_ret2;exact⟨by rw[HX.out];rfl,F1⟩
theorem Hr:cH Tryz.prog 53 34 4 48:=cH.mk_ (z:=.agg #[.int .i64 0,.int .i64 0,.int .i64 0,.slice none 0 0]) (by kernel_rfl) (by kernel_rfl) rfl (by omega)
def TxO(B:Nat)(w:World)(v:Value)(t:TxX):Prop:=(SlD w (Dx B w v) 12 t.v (flR opR t.ops)∧∀x ∈ t.ops,OpW x.o)∧∀x ∈ t.ops,SlD w (Dx B w v) 2 x.v (flR cB x.o.path)∧∀a ∈ x.o.path,Wi a.iss
theorem TxO.keep{B B':Nat}{w w':World}{v v':Value}{t:TxX}(h:TxO B w v t)(hD:∀z,Dx B w v z→Dx B' w' v' z∧w'.heap[z]?=w.heap[z]?):TxO B' w' v' t:=⟨⟨h.1.1.keep hD,h.1.2⟩,fun x hx=>⟨(h.2 x hx).1.keep hD,(h.2 x hx).2⟩⟩
theorem TxO.of{B B':Nat}{w:World}{v:Value}{t:TxX}(h:TxN B' w t)(hD:∀z,Dn B' w z→Dx B w v z∧w.heap[z]?=w.heap[z]?):TxO B w v t:=⟨⟨h.1.1.keep hD,h.1.2⟩,fun x hx=>⟨(h.2 x hx).1.keep hD,(h.2 x hx).2⟩⟩
theorem FM{B:Nat}{w:World}{v:Value}:∀k,Dx B w v k→Dm w none k∧w.heap[k]?=w.heap[k]?:=fun _ hk=>⟨⟨hk.2.1,by simp⟩,rfl⟩
theorem TxO.d{B:Nat}{w:World}{v:Value}{t:TxX}(h:TxO B w v t):TxD w none t:=⟨⟨h.1.1.keep FM,h.1.2⟩,fun x hx=>⟨(h.2 x hx).1.keep FM,(h.2 x hx).2⟩⟩
theorem rE:∀(L:List (List UInt8)) (x:List UInt8) (l:List Txn) (t:Txn),gJ L=some l→rdT x=some t→gJ (L++[x])=some (l++[t])
 |[],x,l,t,h,k=>by
  have:l=[]:=by simpa[gJ] using h.symm
  subst this;show gJ [x]=_;unfold gJ;rw[k];rfl
 |y::L,x,l,t,h,k=>by
  unfold gJ at h;cases hy:rdT y with
  |none=>rw[hy] at h;simp at h
  |some a=>
   cases hL:gJ L with
   |none=>rw[hy,hL] at h;simp at h
   |some b=>
    rw[hy,hL] at h;have:l=a::b:=by simpa using h.symm
    subst this;show gJ (y::(L++[x]))=_;unfold gJ;rw[hy,rE L x b t hL k];rfl
theorem rG:∀(L:List (List UInt8)) (k:Nat) (hk:k<L.length),rdT L[k]=none→gJ L=none
 |y::L,0,_,h=>by
  unfold gJ;have:rdT y=none:=h;rw[this]
 |y::L,k+1,hk,h=>by
  unfold gJ;rw[rG L k (by simpa using hk) (by simpa using h)];cases rdT y<;>rfl
def PaR(R:List Txn × Int)(w:World)(e:Ending)(w':World):Prop:=∃va l,e= .returned (.tuple #[va,.int .i64 R.2])∧SlT w' none va l∧plT l=R.1∧Fr none w w'
theorem Am(v:List UInt8)(w:World)(hE:Errs w)(hM:Mxl w)(hT:Tab w)(hA:∀c ∈ v,c.toNat<128)(hmx:0<w.heap.size)(hTR:∀x ∈ eO 124 v,TrC x)(hXT:∀L,gJ (eO 124 v)=some L→∀t ∈ L,∀o ∈ t.ops,TxC o):Calls Tryz.prog 37 #[.string (bL v)] w (PaR (rdS v) w):=by
 have HTR:=sH hTR;have HXT:=sH hXT;clear hTR hXT;have hsz:((bL v).size:Int)=(v.length:Int):=by rw[dB]
 have HA:=sH hA;have HTB:=sH hT;clear hA hT;by_cases h200:200<v.length
 ·have HX:Hid (rdS v=([],3)):=by unfold Hid rdS;rw[if_pos h200]
  have h2:(200:Int)<((bL v).size:Int):=by rw[hsz];omega
  clear hsz h200 hE hM;generalize rdS v=R at*
  go_enter Tryz.func37,Tryz.ntmps37;go_wp2_with fail;go_ret2;exact⟨.slice none 0 0,[],by rw[HX.out];rfl,SlT.nil _ _,by rw[HX.out];rfl,Fr.refl _ _⟩
 have h2:¬(200:Int)<((bL v).size:Int):=by rw[hsz];omega
 have H200:=sH h200;have hq:((bL v).toList == [48])=decide (v=[48]):=by
  rw[bQ];by_cases h:v=[48]
  ·subst h;rfl
  rw[decide_eq_false h];simpa using h
 by_cases h48:v=[48]
 ·have HX:Hid (rdS v=([],0)):=by unfold Hid rdS;rw[if_neg h200,if_pos h48]
  rw[decide_eq_true h48] at hq;clear hsz h200 h48 hE hM;generalize rdS v=R at*
  go_enter Tryz.func37,Tryz.ntmps37;go_wp2_with fail;go_ret2;exact⟨.slice none 0 0,[],by rw[HX.out];rfl,SlT.nil _ _,by rw[HX.out];rfl,Fr.refl _ _⟩
 rw[decide_eq_false h48] at hq;have H48:=sH h48;clear h48 h200;obtain⟨R,hR⟩:∃R,R=rdS v:=⟨_,rfl⟩;have HRn:Hid (gJ (eO 124 v)=none→R=([],2)):=by
  intro h;rw[hR];unfold rdS;rw[if_neg H200.out,if_neg H48.out,h]
 have HRs:Hid (∀l,gJ (eO 124 v)=some l→(cS l=0∧fK l=v→R=(l,0))∧(¬(cS l=0∧fK l=v)→R=([],2))):=by
  intro l h;rw[hR];unfold rdS;rw[if_neg H200.out,if_neg H48.out,h];exact⟨fun h=>if_pos h,fun h=>if_neg h⟩
 rw[←hR];clear hR hsz;go_enter Tryz.func37,Tryz.ntmps37;go_wp2_with fail;refine(mI 124 v w hM (by have:=H200.out;omega)).mono ?_;rintro e w1 ⟨A,n,c,rfl,hn,hs,F1⟩;obtain⟨W,hWs⟩:∃W,W=eO 124 v:=⟨_,rfl⟩;rw[←hWs] at hn hs;subst hn;have HS:=sH hs;have HWs:=sH hWs;have hE1:=hE.frs F1 (by simp) (by simp);have hM1:=hM.frs F1 (by simp);have hwl:W.length≤201:=by
  have h1:=sS 124 v;have h2:=congrArg List.length hWs;have h3:=H200.out;omega
 have hc4:W.length≤c∧c≤9223372036854775807:=by obtain⟨A',n',c',e,_,hc,hm,_⟩:=hs;injection e with e1 e2 e3;subst e2 e3;exact⟨hc,hm⟩
 have HLw:Hid (∀x ∈ W,x.length≤1000000∧∀c ∈ x,c.toNat<128):=fun x hx=>by
  rw[HWs.out] at hx;have:=lM hx;have h3:=H200.out;exact⟨by omega,fun c hc=>HA.out c (this.2 c hc)⟩
 have HMX:Hid (0<w1.heap.size):=Nat.lt_of_lt_of_le hmx F1.size;have HF1:=sH F1;clear hs hWs hE hM F1 hmx;go_wp2_with fail;go_loopw [4,17] (fun s4 s17 wr=>∃(k:Nat) (l:List TxX) (Ap:Option Addr) (cp:Nat),k≤W.length∧s17= .int .i64 (k:Int)∧s4= .slice Ap l.length cp∧Hid (gJ (W.take k)=some (plT l))∧Hid (l.length=k)∧Fr none w1 wr∧wr.ownsRow w1.heap.size 34 4 (.slice Ap l.length cp) l.length (flR txR l)∧Hid (∀t ∈ l,TxW t∧TxO w1.heap.size wr (.slice Ap l.length cp) t)) (fun _ s17 _=>W.length - (intOf s17).toNat)
 case atStart=>exact⟨0,[],none,0,Nat.zero_le _,rfl,rfl,rfl,rfl,Fr.refl _ _,World.ownsRow_nil _ _ _ _,(fun x hx=>by cases hx)⟩
 case round=>
  obtain⟨k,l,Ap,cp,hk,rfl,rfl,HAL,HLK,F,own,HPs⟩:=hrel;have hE:=hE1.frs F (by simp) (by simp);have hM:=hM1.frs F (by simp);by_cases hlt:k<W.length
  ·obtain⟨q,off,hAq,hqD,d0⟩:∃q off,A=some ⟨q,off,none⟩∧(w.heap.size≤q∧q<w1.heap.size)∧w1.cell? ⟨q,off+k,none⟩=some (.string (bL W[k])):=by
    obtain⟨A',n',c',e,_,hc,hm,hx⟩:=HS.out;injection e with e1 e2 e3
    subst e1 e2 e3;obtain⟨q,off,h1,h2,h3⟩:=hx (by omega);exact⟨q,off,h1,h2,h3 k _ (by simp[hlt])⟩
   subst hAq;have d0:=F.keep d0;have HLx:=sH (HLw.out _ (List.getElem_mem hlt));have HTx:Hid (TrC W[k]):=HTR.out _ (by rw[←HWs.out];exact List.getElem_mem hlt);have HSt:Hid (W.take (k+1)=W.take k++[W[k]]):=by unfold Hid;rw[List.take_succ_eq_append_getElem hlt]
   have HBad:Hid (rdT W[k]=none→R=([],2)):=fun h=>HRn.out (by rw[←HWs.out];exact rG W k hlt h);obtain⟨word,hword⟩:∃word,word=W[k]:=⟨_,rfl⟩;rw[←hword] at d0 HLx HSt HBad HTx;clear hword;go_wp2_with fail;refine(HTx.out wr hE hM HLx.out.1 HLx.out.2 (Nat.lt_of_lt_of_le HMX.out F.size)).mono ?_;rintro e w5 ⟨t,ok,rfl,hTP,hTN,hTW,F5⟩;obtain⟨ts,tq,tf,tp,tA,tc⟩:=t;have HTP:=sH hTP;have HTN:=sH hTN;have HTW:=sH hTW;unfold txV;dsimp only;clear hTP hTN hTW hE hM d0;cases ok with
   |false=>
    have HX:Hid (R=([],2)):=HBad.out (HTP.out.2 rfl);clear own HPs;go_wp2_with fail;generalize hW6:w5.alloc _=w6;have F6:Fr none w5 w6:=hW6▸(Fr.refl none w5).alloc _;go_ret2;exact⟨.slice none 0 0,[],by rw[HX.out];rfl,SlT.nil _ _,by rw[HX.out];rfl,((HF1.out.pure F).pure F5).pure F6⟩
   |true=>
    have HTx:=sH (HTP.out.1 rfl);go_upto_region 12 with(fail)
    generalize hW6:w5.alloc _=w6;have F6:Fr none w5 w6:=hW6▸(Fr.refl none w5).alloc _;have b9:TxB w6 w5.heap.size ⟨ts,tq,tf,tp,tA,tc⟩:=by rw[←hW6];exact aD _ _
    have F56:=F5.pure F6;have own6:=aR own F56 (by simp);have HPs6:Hid (∀t ∈ l,TxW t∧TxO w1.heap.size w6 (.slice Ap l.length cp) t):=fun t ht=>⟨(HPs.out t ht).1,(HPs.out t ht).2.keep (jQ F56 (fun g e=>by cases e))⟩;have HOB:Hid (∀g,(Value.slice Ap l.length cp).ownBlock=some g→g<wr.heap.size):=fun g hg=>(own.lt g hg).2;have HT6:Hid (TxN wr.heap.size w6 ⟨ts,tq,tf,tp,tA,tc⟩):=HTN.out.fr F6 (fun g e=>by cases e);have hlk:l.length≤201:=by have:=HLK.out;omega
    have FF6:=F.pure F56;have hle:wr.heap.size≤w6.heap.size:=F56.size;have hle1:=F.size;clear hW6 own HPs F5 F6 HTN;obtain⟨e0,e1,e2,e3⟩:=bD b9;dsimp only at e0 e1 e2 e3;have b9l:=b9.lt;go_wp2_with (at_builtin;refine iW Hr rfl _ _ rfl w1.heap.size Ap l.length cp _ rfl own6 1 [.int .i64 ts,.int .i64 tq,.int .i64 tf,.slice tA tp.length tc] _ _ rfl (by simp) rfl (by simp[Value.oneCell']) (by omega) (by unfold maxLen;omega) (by omega) ?_;intro A7 c7 w7 own7 F7 nb7);go_roundw
    case rel=>
     have hdx:∀z:Nat,Dx w1.heap.size w6 (.slice Ap l.length cp) z→Dx w1.heap.size w7 (.slice A7 (l.length+1) c7) z∧w7.heap[z]?=w6.heap[z]?:=sO F7 nb7;refine⟨k+1,l++[⟨ts,tq,tf,tp,tA,tc⟩],A7,c7,by omega,by go_num,?_,?_,?_,FF6.own F7 (fun g e=>bH own6 g e),?_,?_⟩
     ·rw[List.length_append];rfl
     ·unfold Hid;rw[HSt.out,rE _ _ _ _ HAL.out HTx.out];unfold plT;rw[List.map_append];rfl
     ·have:=HLK.out;unfold Hid;rw[List.length_append];simp only[List.length_cons,List.length_nil];omega
     ·rw[List.length_append];simp only[List.length_cons,List.length_nil];rw[cV];exact own7
     rw[List.length_append];simp only[List.length_cons,List.length_nil];intro y hy;rcases List.mem_append.1 hy with hy|hy
     ·exact⟨(HPs6.out y hy).1,(HPs6.out y hy).2.keep hdx⟩
     rw[List.mem_singleton.1 hy];exact⟨HTW.out,(TxO.of HT6.out (yB hle1 HOB.out)).keep hdx⟩
    case measure=>simp[intOf];omega
  obtain rfl:k=W.length:=by omega
  have HAF:Hid (gJ (eO 124 v)=some (plT l)):=by
   have:=HAL.out;rw[List.take_of_length_le (Nat.le_refl _)] at this;unfold Hid;rw[←HWs.out];exact this
  have HSL:Hid (SlT wr none (.slice Ap l.length cp) l):=⟨SlR.of_own (R:=txR) own (by simp) (fun t ht=>(HPs.out t ht).1),fun t ht=>(HPs.out t ht).2.d⟩;have FW:=HF1.out.pure F;have HTW2:Hid (Tab wr):=HTB.out.fr FW;have HR2:=sH (HRs.out _ HAF.out);clear own HPs hE hM hE1 hM1;go_wp2_with fail;refine(lV l _ wr HSL.out).mono ?_;rintro e w5 ⟨rfl,F5⟩;by_cases hc:cS (plT l)=0
  ·have HC:=sH hc;rw[hc];clear hc;go_wp2_with fail;refine(yP l _ w5 (HSL.out.fr F5) HC.out (HTW2.out.fr F5) (fun t ht x hx=>HXT.out _ HAF.out t.pl (List.mem_map_of_mem ht) x.o (List.mem_map_of_mem hx))).mono ?_;rintro e w6 ⟨rfl,F6⟩;by_cases he:fK (plT l)=v
   ·have HX:Hid (R=(plT l,0)):=HR2.out.1 ⟨HC.out,he⟩;have h1:((bL (fK (plT l))).toList == (bL v).toList)=true:=by rw[he];exact beq_self_eq_true _
    have HS6:Hid (SlT w6 none (.slice Ap l.length cp) l):=(HSL.out.fr F5).fr F6;generalize fK (plT l)=S at*
    clear he;go_wp2_with fail;go_ret2;exact⟨_,l,by rw[HX.out];rfl,HS6.out,by rw[HX.out],(FW.pure F5).pure F6⟩
   have HX:Hid (R=([],2)):=HR2.out.2 (fun h=>he h.2);have h1:((bL (fK (plT l))).toList == (bL v).toList)=false:=by rw[bQ,bQ,beq_eq_false_iff_ne];exact he
   generalize fK (plT l)=S at*
   clear he;go_wp2_with fail;go_ret2;exact⟨.slice none 0 0,[],by rw[HX.out];rfl,SlT.nil _ _,by rw[HX.out];rfl,(FW.pure F5).pure F6⟩
  have HX:Hid (R=([],2)):=HR2.out.2 (fun h=>hc h.1);have hne:(cS (plT l) == 0)=false:=by rw[beq_eq_false_iff_ne];exact hc
  have hne2:(cS (plT l) !=0)=true:=by rw[bne,hne];rfl
  generalize cS (plT l)=C at*
  clear hc;go_wp2_with fail;go_ret2;exact⟨.slice none 0 0,[],by rw[HX.out];rfl,SlT.nil _ _,by rw[HX.out];rfl,FW.pure F5⟩
end Go.Proofs.YthaggndnfamhjaaGreatDoor
