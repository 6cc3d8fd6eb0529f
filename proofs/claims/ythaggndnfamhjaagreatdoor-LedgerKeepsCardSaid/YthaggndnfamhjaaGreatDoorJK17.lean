/- Texts, joined. -/
import Derived.Test.YthaggndnfamhjaaGreatDoorProg
import Derived.Test.YthaggndnfamhjaaGreatDoorJK2
import Derived.Test.YthaggndnfamhjaaGreatDoorJA

set_option linter.unusedSimpArgs false
set_option linter.unusedVariables false
set_option maxRecDepth 100000
set_option maxHeartbeats 16000000
namespace Go.Proofs.YthaggndnfamhjaaGreatDoor
open Go.RowKit
theorem cN(n:Int)(g:Nat)(w:World)(hn:n≤4294967296)(h:bP 69 w g):
  Calls Tryz.prog 22 #[.pointer (some ⟨g,0,none⟩),.int .i64 n] w (GU 69 w g 0 (max (n - 1) 0)):=by
 have h0:=h;have hgl:=h.lt;obtain⟨A,c,l,k,hb,hs,hw,hl,hk,q1,q2,hc⟩:=h.open_;have c0:w.cell? ⟨g,0,none⟩=some (.slice A l.length c):=cell_of_row w g 0 _ _ _ hb;have c1:w.cell? ⟨g,1,none⟩=some (.int .i64 k):=cell_of_row w g 1 _ _ _ hb;have f1:w.frozen? ⟨g,1,none⟩=false:=by simp[World.frozen?,hb]
 have HB:=sH hb;clear hb;by_cases hkl:k<l.length
 ·by_cases hn1:n<1
  ·go_enter Tryz.func22,Tryz.ntmps22;go_wp2_with fail;go_quiet (fail);go_wp2;go_ret;exact⟨0,rfl,by omega,by omega,h0.drewN _,(Fr.refl _ _).drewN _⟩
  go_enter Tryz.func22,Tryz.ntmps22;go_wp2_with fail;go_quiet (fail);go_wp2;generalize hW:(w.drewN _).setCell _ _=w1;have F1:Fr (some g) w w1:=hW▸(((Fr.refl _ w).drewN _).setRow rfl _);have S1:bP 69 w1 g:=hW▸bP.next (T:=69) (k:=k) (by exact HB.out) hs hw hl hkl (by exact hgl);obtain⟨b,off,rfl,hb,hcc⟩:=hc (by omega);have d0:w1.cell? ⟨g,0,none⟩=some (.slice (some ⟨b,off,none⟩) l.length c):=by rw[←hW,World.cell?_setCell_other _ _ _ _ (by simp)];exact c0
  have d1:w1.cell? ⟨g,1,none⟩=some (.int .i64 (k+1)):=by rw[←hW];exact World.cell?_setCell_same _ _ _ c1
  have d2:w1.cell? ⟨b,off+k,none⟩=some (.int .i64 l[k]):=F1.keep (hcc k hkl) (by simp;omega);have hn1':1≤n:=by omega
  have m1:l[k].tmod n<n:=Int.tmod_lt_of_pos _ (by omega);have m2: -n<l[k].tmod n:=by have:=Int.lt_tmod_of_pos l[k] (b:=n) (by omega);omega
  have m3:=Int.emod_nonneg (l[k].tmod n+n) (b:=n) (by omega);have m4:=Int.emod_lt_of_pos (l[k].tmod n+n) (b:=n) (by omega);clear hW c0 c1 f1 hn1;go_quiet (fail);go_wp2;go_ret;exact⟨_,rfl,m3,by omega,S1.drewN _,F1.drewN _⟩
 go_enter Tryz.func22,Tryz.ntmps22;go_wp2_with fail;go_quiet (fail);go_wp2;go_ret;exact⟨0,rfl,by omega,by omega,h0.drewN _,(Fr.refl _ _).drewN _⟩
theorem wZ(v:Value)(l:List Int)(w:World)(h:SlI w none v l):
  Calls Tryz.prog 7 #[v] w (Im 69 w):=by
 have h0:=h;obtain⟨A,c,rfl,q1,q2,hc⟩:=h.open_;by_cases hl:l.length≤800
 ·go_enter Tryz.func7,Tryz.ntmps7;go_wp2;go_ret;exact⟨_,rfl,Nat.le_refl _,bP.made h0 hl,(Fr.refl _ _).alloc _⟩
 go_enter Tryz.func7,Tryz.ntmps7;go_wp2;all_goals first|(exfalso;omega)|skip
 go_ret;exact⟨_,rfl,Nat.le_refl _,bP.made (h0.take 800 (by omega)) (List.length_take_le _ _),(Fr.refl _ _).alloc _⟩
theorem cA(lo hi:Int)(g:Nat)(w:World)(h1: -1073741824≤lo)(h2:lo≤1073741824)(h3: -1073741824≤hi)(h4:hi≤1073741824)(h:bP 69 w g):
  Calls Tryz.prog 23 #[.pointer (some ⟨g,0,none⟩),.int .i64 lo,.int .i64 hi] w (GU 69 w g lo (max lo hi)):=by
 go_enter Tryz.func23,Tryz.ntmps23;go_wp2_with fail;refine(cN _ _ _ (by omega) h).mono ?_;rintro e w' ⟨x,rfl,x1,x2,S,F⟩;go_wp2;go_ret;exact⟨_,rfl,by omega,by omega,S,F⟩
end Go.Proofs.YthaggndnfamhjaaGreatDoor
