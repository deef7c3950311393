/-
  Plain: the document's circle is the walker's.
-/
import Derived.Test.YtlhpjfnfemebdaaGreatRStops
import Derived.Test.YtlhpjfnfemebdaaGreatLassoPlain
set_option linter.unusedSimpArgs false
namespace Go.Proofs.YtlhpjfnfemebdaaGreat
theorem Ua{g:Gr}(hR:Rt g):(Av g).Pairwise (fun a b=>a.1≤b.1):=by
 rw[CM hR];have key:∀n,(Du g 0 n).Pairwise (fun a b=>a.1≤b.1)∧∀e∈Du g 0 n,e.1<(n:Int):=by
  intro n
  induction n with
  | zero=>exact⟨by simp[Du],fun e he=>by simp[Du]at he⟩
  | succ n ih=>
   rw[Jo];refine⟨List.pairwise_append.2 ⟨ih.1,?_,fun a ha b hb=>?_⟩,fun e he=>?_⟩
   ·refine List.pairwise_of_forall_mem_list fun a ha b hb=>?_;rw[Fz ha,Fz hb];exact Int.le_refl _
   ·have h1:=ih.2 a ha;rw[Fz hb];omega
   ·rcases CJ.1 he with he | he
    ·have:=ih.2 e he;omega
    ·rw[Fz he];omega
 exact(key _).1
theorem Te{α:Type}{R:α→α→Prop}{p:α→Bool}:∀{l:List α},l.Pairwise R→∀{e:α},l.find? p=some e→∀x∈l,p x=true→x=e∨R e x
 | [],_,_,h,_,_,_=>by simp at h
 | y::l,hp,e,h,x,hx,hpx=>by
  by_cases hy:p y=true
  ·rw[List.find?_cons_of_pos hy]at h;cases h;rcases Br.1 hx with rfl | hx
   ·exact .inl rfl
   ·exact .inr ((BG.1 hp).1 x hx)
  ·rw[List.find?_cons_of_neg hy]at h;rcases Br.1 hx with rfl | hx
   ·exact absurd hpx hy
   ·exact Te (BG.1 hp).2 h x hx hpx
section
variable {g:Gr} {en:List (List Bool)} {A:Nat} {mode:Int} {part:List Int}
theorem Mx(h:LP g en A mode part){a:Nat}{e:Ed}(he:e∈Av g):Mo (Aj (Ad g) part) (a:Int) e=true↔e.2.1=(a:Int)∧e.1∈part∧e.2.2∈part:=by
 have h1:=Bt h.R he;unfold Mo;rw[Ci,Ci,EU,Dm h.inn,Dm h.inn,Int.toNat_of_nonneg h1.1,Int.toNat_of_nonneg h1.2.2.1]
theorem NH(h:LP g en A mode part)(a:Nat):
 (∃(i:Nat) (z:Int),GF g (Aj (Ad g) part) (Ad g) a=(i:Int)∧BU g en mode (Aj (Ad g) part) a=((i:Int),z)∧(i:Int)∈part∧z∈part∧((i:Int),(a:Int),z)∈Av g)∨
  (GF g (Aj (Ad g) part) (Ad g) a=-1∧FC g part (a:Int)=false∧BU g en mode (Aj (Ad g) part) a=(if mode=1 then Il en (Aj (Ad g) part) (Ad g) a else -1,-1)):=by
 unfold BU;rcases Hz h a with⟨e,hb⟩ | ⟨i,z,e,hi,hz,he,hmin⟩
 ·refine .inr ⟨e,hb,?_⟩;have:(Av g).find? (Mo (Aj (Ad g) part) a)=none:=by
   rw[List.find?_eq_none];intro x hx hh;obtain⟨h1,h2,h3⟩:=(Mx h hx).1 hh;have:=Km.2 (show YG g part (a:Int) from⟨x,hx,h1,h2,h3⟩);rw[hb]at this;cases this
  rw[this];simp only;unfold Il;rw[h.len];by_cases hm:mode=1
  ·rw[if_pos hm,if_pos hm]
  ·rw[if_neg hm,if_neg hm]
 ·refine .inl ⟨i,z,e,?_,hi,hz,he⟩;cases hf:(Av g).find? (Mo (Aj (Ad g) part) a) with
  | none=>
   rw[List.find?_eq_none]at hf;exact absurd ((Mx h he).2 ⟨rfl,hi,hz⟩) (hf _ he)
  | some ed=>
   have hed:=List.mem_of_find?_eq_some hf;obtain⟨h1,h2,h3⟩:=(Mx h hed).1 (List.find?_some hf);have h4:=hmin ed hed h1 h2 h3;have h5:ed.1=(i:Int):=by
    rcases Te (Ua h.R) hf _ he ((Mx h he).2 ⟨rfl,hi,hz⟩) with q | q
    ·rw[← q]
    ·exact Int.le_antisymm q h4
   have h6:=h.once ed hed _ he h5 h1;rw[h6]
theorem Ul(h:LP g en A mode part){home:Int}(hh:home∈part):∀k,k≤A→Fw g en mode (Aj (Ad g) part) home k=((Jy g en mode (Aj (Ad g) part) (Ad g) home k).1,(Jy g en mode (Aj (Ad g) part) (Ad g) home k).2.1)
 | 0,_=>rfl
 | k+1,hk=>by
  obtain⟨h1,-⟩:=Ng h hh k (by omega);rw[Fw,Ul h hh k (by omega),Jy,Su,Ij];generalize Jy g en mode (Aj (Ad g) part) (Ad g) home k=s at*;rcases NH h k with⟨i,z,e,eg,hi,hz,he⟩ | ⟨e,hb,eg⟩
  ·have hz0:=(Bt h.R he).2.2.1;simp only at hz0;obtain⟨q1,q2,q3,-⟩:=GV h h1 hi;obtain⟨-,r2,r3⟩:=q1.act h.R h.once (a:=(k:Int)) (z:=z) (by rw[q2];exact he) hz;rw[eg,e];simp only;rw[if_neg (show¬(i:Int)<0 by omega),if_pos hz0,if_neg (show¬(i:Int)=-1 by omega),r2,r3,q3]
  ·rw[eg,e];simp only;rw[if_pos trivial];by_cases hm:mode=1
   ·rw[if_pos hm,if_pos hm];obtain⟨i,e1,e2,-⟩:=Hv h (h.weak hm k (by omega) hb);obtain⟨q1,q2,q3,-⟩:=GV h h1 e2;rw[e1,if_neg (show¬(i:Int)<0 by omega),if_neg (by omega),q2,q3]
   ·rw[if_neg hm,if_neg hm,if_pos (by omega)]
theorem Vm(h:LP g en A mode part){home:Int}(hh:home∈part):Ph g en mode (Aj (Ad g) part) home A=(Gx g en mode (Aj (Ad g) part) (Ad g) home A).2.1:=by
 unfold Ph;rw[Ul h hh A (AQ _),(KJ h hh).2.2.1]
end
theorem Sh{g:Gr}{en:List (List Bool)}{ag mode:Int}{part:List Int}(hS:g.S.length≤100000)(ho:Fs g):Mc g en ag mode part=(Cc g en ag mode part).2.1:=by
 unfold Mc Cc;by_cases hg:AU g en ag mode part=true
 ·rw[if_pos hg,if_pos hg];have e:=EP hg;have h:=LP.of hS ho (e▸hg);exact Vm h (EJ h.ne)
 ·rw[if_neg hg,if_neg hg]
theorem fM{g:Gr}{en:List (List Bool)}{ag mode:Int}{part:List Int}(hS:g.S.length≤1000)(ho:Fs g)(hg:AU g en ag mode part=true):dG g en ag mode part:=by
 have e:=EP hg;obtain⟨A,rfl⟩:∃A:Nat,ag=(A:Int):=⟨_,e⟩;have h:=LP.of (by omega) ho hg;have hh:=EJ h.ne;have hpl:=Oa h;have hN:=Ap h.R;refine⟨⟨fun k hk=>?_,fun k hk=>?_⟩,(DX h.inn).2 hh,h.ne,?_⟩
 ·rw[BT]at hk;obtain⟨h1,h2⟩:=Ng h hh k hk;obtain⟨m1,m2⟩:=(DX h.inn).2 h1.at_;have h3:k*part.length≤k*100001:=Nat.mul_le_mul_left _ (by omega);rw[Ul h hh k hk];exact⟨m1,m2,by simp only;omega⟩
 ·rw[BT]at hk;rcases NH h k with⟨i,z,e,eg,hi,hz,he⟩ | ⟨e,hb,eg⟩
  ·rw[eg];exact .inr ((DX h.inn).2 hi)
  ·rw[eg];by_cases hm:mode=1
   ·obtain⟨i,e1,e2,-⟩:=Hv h (h.weak hm k hk hb);rw[if_pos hm,e1];exact .inr ((DX h.inn).2 e2)
   ·rw[if_neg hm];exact .inl (by simp)
 ·rw[Sh (by omega) ho];unfold Cc;rw[if_pos hg];have h1:=(KJ h hh).2.2.2;rw[BT];have hA:=h.hA;have h2:(A+1)*part.length≤101*1000:=Nat.mul_le_mul (by omega) (by omega);omega
end Go.Proofs.YtlhpjfnfemebdaaGreat
