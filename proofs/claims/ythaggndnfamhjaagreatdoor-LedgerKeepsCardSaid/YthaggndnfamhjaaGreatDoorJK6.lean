/- Texts, joined. -/
import Derived.Test.YthaggndnfamhjaaGreatDoorJK2
import Derived.Lib.Join
import Derived.Lib.ItoaLen

set_option linter.unusedSimpArgs false
set_option linter.unusedVariables false
set_option maxRecDepth 100000
set_option maxHeartbeats 16000000
namespace Go.Proofs.YthaggndnfamhjaaGreatDoor
open Go.RowKit
mutual
def wiT:Tr→Prop
 | .mk thr nodes inner=>Wi thr∧(∀x ∈ nodes,Wi x)∧wiL inner
def wiL:List Tr→Prop
 |[]=>True
 |x::r=>wiT x∧wiL r
end
mutual
theorem TrD.wi{w:World}{D:Nat→Prop}:∀(t:Tr) (v:Value),TrD w D v t→wiT t
 | .mk thr nodes inner,v,h=>by
  simp only[TrD] at h;obtain⟨vn,vi,cells,e,h0,h1,h2,h3,h4,h5,h6⟩:=h;simp only[wiT];exact⟨h0,h2,eN.wi inner cells h6⟩
theorem eN.wi{w:World}{D:Nat→Prop}:∀(l:List Tr) (cells:List Value),eN w D cells l→wiL l
 |[],cells,h=>by simp only[wiL]
 |x::r,cells,h=>by
  simp only[eN] at h;obtain⟨a,b,c,rest,e,h1,h2⟩:=h;simp only[wiL];exact⟨TrD.wi x _ h1,eN.wi r rest h2⟩
end
def oK(c:UInt8):Bool:=decide (48≤c.toNat∧c.toNat≤57)
def skp(u:List UInt8):List UInt8:=u.dropWhile (· == 32)
def DA(u:List UInt8):Nat:=
 if u.take 2=[111,102] then 2 else match u with
  |[]=>0
  |c::r=>if c=40∨c=41∨c=44 then 1 else((c::r).takeWhile oK).length
def tok(u:List UInt8):List UInt8:=u.take (DA u)
def nxt(u:List UInt8):List UInt8:=skp (u.drop (DA u))
def sP(n:Nat)(l:List UInt8):Nat:=l.foldl (fun n c=>10*n+(c.toNat - 48)) n
theorem DB(u:List UInt8):(skp u).length≤u.length:=(List.dropWhile_suffix _).length_le
theorem DC(u:List UInt8):(nxt u).length≤u.length - DA u:=by
 have:=DB (u.drop (DA u));rw[List.length_drop] at this;exact this
theorem FR(u:List UInt8):(nxt u).length≤u.length:=by have:=DC u;omega
def Sp:List (List UInt8)→List UInt8→List UInt8→Prop
 |[],u,v=>u=v
 |t::ts,u,v=>tok u=t∧Sp ts (nxt u) v
theorem Sp.append:∀(a b:List (List UInt8)) (u v:List UInt8),Sp (a++b) u v↔∃w,Sp a u w∧Sp b w v
 |[],b,u,v=>by simp[Sp]
 |t::a,b,u,v=>by
  simp only[List.cons_append,Sp,Sp.append a b];constructor
  ·rintro⟨h,w,h1,h2⟩;exact⟨w,⟨h,h1⟩,h2⟩
  rintro⟨w,⟨h,h1⟩,h2⟩;exact⟨h,w,h1,h2⟩
theorem Sp.len:∀(a:List (List UInt8)) (u v:List UInt8),Sp a u v→v.length≤u.length
 |[],u,v,h=>by simp only[Sp] at h;subst h;omega
 |t::a,u,v,h=>by
  simp only[Sp] at h;have:=Sp.len a _ _ h.2;have:=FR u;omega
theorem uF(a b:List UInt8)(n:Nat):sP n (a++b)=sP (sP n a) b:=List.foldl_append
theorem uG(n:Nat)(c:UInt8):sP n [c]=10*n+(c.toNat - 48):=rfl
theorem uH(u:Nat):sP 0 (Lib.decDigits u)=u:=by
 induction u using Nat.strongRecOn with
 |_ u ih=>
  by_cases h:u<10
  ·rw[Lib.decDigits,dif_pos h];simp only[uG,UInt8.toNat_ofNat'];omega
  rw[Lib.decDigits,dif_neg h,uF,ih (u/10) (by omega)];simp only[uG,UInt8.toNat_ofNat'];omega
theorem sQ(u:Nat):∀c ∈ Lib.decDigits u,oK c=true:=by
 induction u using Nat.strongRecOn with
 |_ u ih=>
  intro c hc;by_cases h:u<10
  ·rw[Lib.decDigits,dif_pos h] at hc;simp only[List.mem_singleton] at hc;subst hc;simp only[oK,UInt8.toNat_ofNat',decide_eq_true_eq];omega
  rw[Lib.decDigits,dif_neg h] at hc;rcases List.mem_append.1 hc with hc|hc
  ·exact ih (u/10) (by omega) c hc
  simp only[List.mem_singleton] at hc;subst hc;simp only[oK,UInt8.toNat_ofNat',decide_eq_true_eq];omega
theorem Bh(u:Nat):Lib.decDigits u≠[]:=by
 intro e;have:=congrArg List.length e;rw[Lib.decDigits_length] at this;have:=Lib.nDigits_pos u;simp only[List.length_nil] at*
 omega
def Bl(p:List UInt8):Prop:=∀c ∈ p,c=32
def BB:List UInt8→List UInt8→Prop
 |[],y=>y=[]
 |c::x,y=>∃p q z,y=p++c::(q++z)∧BB x z∧Bl p∧Bl q∧(p=[]∨c=40∨c=41∨c=44∨c=111)∧(q=[]∨c=40∨c=41∨c=44∨c=102)
theorem BB.refl:∀x:List UInt8,BB x x
 |[]=>by simp[BB]
 |c::x=>by
  simp only[BB];exact⟨[],[],x,rfl,BB.refl x,by simp[Bl],by simp[Bl],.inl rfl,.inl rfl⟩
theorem BB.append:∀(a b y:List UInt8),BB (a++b) y→∃y1 y2,y=y1++y2∧BB a y1∧BB b y2
 |[],b,y,h=>⟨[],y,rfl,by simp[BB],h⟩
 |c::a,b,y,h=>by
  rw[List.cons_append] at h;simp only[BB] at h;obtain⟨p,q,z,rfl,hz,h1,h2,h3,h4⟩:=h;obtain⟨z1,z2,rfl,k1,k2⟩:=BB.append a b z hz;refine⟨p++c::(q++z1),z2,by simp,?_,k2⟩;simp only[BB];exact⟨p,q,z1,rfl,k1,h1,h2,h3,h4⟩
theorem BB.plain:∀(a y:List UInt8),(∀c ∈ a,c≠40∧c≠41∧c≠44∧c≠111∧c≠102)→BB a y→y=a
 |[],y,_,h=>by simpa[BB] using h
 |c::a,y,hc,h=>by
  simp only[BB] at h;obtain⟨p,q,z,rfl,hz,h1,h2,h3,h4⟩:=h;have:=hc c (by simp);have e1:p=[]:=by
   rcases h3 with h|h|h|h|h
   ·exact h
   all_goals simp_all
  have e2:q=[]:=by
   rcases h4 with h|h|h|h|h
   ·exact h
   all_goals simp_all
  subst e1 e2;rw[BB.plain a z (fun x hx=>hc x (by simp[hx])) hz];rfl
theorem BB.one{c:UInt8}{a y:List UInt8}(h:BB (c::a) y):∃p q z,y=p++c::(q++z)∧BB a z∧Bl p∧Bl q:=by
 simp only[BB] at h;obtain⟨p,q,z,rfl,hz,h1,h2,h3,h4⟩:=h;exact⟨p,q,z,rfl,hz,h1,h2⟩
theorem BB.of{a y:List UInt8}(h:BB (111::102::a) y):∃p q z,y=p++111::102::(q++z)∧BB a z∧Bl p∧Bl q:=by
 simp only[BB] at h;obtain⟨p,q,z,rfl,⟨p',q',z',rfl,hz',h1',h2',h3',h4'⟩,h1,h2,h3,h4⟩:=h;have e1:q=[]:=by
  rcases h4 with h|h|h|h|h
  ·exact h
  all_goals exact absurd h (by decide)
 have e2:p'=[]:=by
  rcases h3' with h|h|h|h|h
  ·exact h
  all_goals exact absurd h (by decide)
 subst e1 e2;exact⟨p,q',z',rfl,hz',h1,h2'⟩
end Go.Proofs.YthaggndnfamhjaaGreatDoor
