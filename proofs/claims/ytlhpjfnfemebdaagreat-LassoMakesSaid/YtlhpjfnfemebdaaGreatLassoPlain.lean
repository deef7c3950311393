/- Plain: the walk of a good part: where it goes, how long it -/
import Derived.Test.YtlhpjfnfemebdaaGreatLassoCyc
set_option linter.unusedSimpArgs false
namespace Go.Proofs.YtlhpjfnfemebdaaGreat
theorem DX{n:Nat}{part:List Int}(hin:∀x∈part,∃i:Nat,x=(i:Int)∧i<n){x:Int}:(Cz (Aj n part) x=true∧0≤x)↔x∈part:=by
 unfold Cz;rw[Ci,EU,Cn];constructor
 ·rintro⟨⟨h1,h2⟩,h0⟩;have h3:x.toNat<n:=by omega
  have:=(FQ h3).1 h2;rwa [Int.toNat_of_nonneg h0]at this
 ·intro hx;obtain⟨i,rfl,hi⟩:=hin x hx;exact⟨⟨by omega,(FQ (by simpa using hi)).2 (by simpa using hx)⟩,by omega⟩
theorem Dm{n:Nat}{part:List Int}(hin:∀x∈part,∃i:Nat,x=(i:Int)∧i<n){i:Nat}:(Aj n part).getD i false=true↔(i:Int)∈part:=by
 by_cases hi:i<n
 ·exact FQ hi
 ·constructor
  ·intro h;rw[AM,List.getElem?_eq_none (by rw[Cn];omega)]at h;cases h
  ·intro h;obtain⟨j,e,hj⟩:=hin _ h;omega
def Fs(g:Gr):Prop:=∀e∈Av g,∀f∈Av g,e.1=f.1→e.2.1=f.2.1→e=f
theorem Ow{g:Gr}(ho:Fs g){y a z:Int}(h:(y,a,z)∈Av g):Mt g y a=z:=by
 unfold Mt Hk;cases hf:(AR g y).find? (fun e=>decide (e.2.1=a)) with
 | none=>
  rw[List.find?_eq_none]at hf;exact absurd (hf (y,a,z) (BZ.2 ⟨h,rfl⟩)) (by simp)
 | some e=>
  have h1:=BZ.1 (List.mem_of_find?_eq_some hf);have h2:e.2.1=a:=by have:=List.find?_some hf;simpa using this
  rw[ho e h1.1 (y,a,z) h h1.2 h2]
theorem aS{g:Gr}(hR:Rt g)(ho:Fs g){y a z:Int}(h:(y,a,z)∈Av g):Gl g y [a]=z:=by
 have h1:=Bt hR h;have h2:=Ap hR;simp only at h1;unfold Gl;rw[if_pos (by omega),Fy,Ow ho h,if_neg (by omega)]
 rfl
theorem Ly{g:Gr}{a:Int}:∀(p:List Int) (x:Int),Fy g x p≠-1→Fy g x (p++[a])=Mt g (Fy g x p) a
 | [],x,_=>by
  show(if Mt g x a=-1 then -1 else Mt g x a)=Mt g x a;by_cases h:Mt g x a=-1
  ·rw[if_pos h,h]
  ·rw[if_neg h]
 | b::p,x,h=>by
  rw[Fy]at h;by_cases hb:Mt g x b=-1
  ·rw[if_pos hb]at h;exact absurd rfl h
  ·rw[if_neg hb]at h;rw[List.cons_append,Fy,if_neg hb,Fy,if_neg hb];exact Ly p _ h
structure Jz(g:Gr)(part:List Int)(home:Int)(s:WS):Prop where
 at_:s.1∈part
 len:s.2.2.length=s.2.1.length+1
 last:s.2.2.getD s.2.1.length 0=s.1
 hd:s.2.2.getD 0 0=home
 step:∀i,i<s.2.1.length→(s.2.2.getD i 0,s.2.1.getD i 0,s.2.2.getD (i+1) 0)∈Av g∧s.2.2.getD i 0∈part∧s.2.2.getD (i+1) 0∈part
theorem IQ{l:List Int}{x:Int}{i:Nat}(h:i≤l.length):(l++[x]).getD i 0=if i<l.length then l.getD i 0 else x:=by
 by_cases h1:i<l.length
 ·rw[if_pos h1];simp[AM,List.getElem?_append_left h1]
 ·rw[if_neg h1];obtain rfl:i=l.length:=by omega
  simp[AM]
theorem Jz.start(g:Gr){part:List Int}{home:Int}(h:home∈part):Jz g part home (home,[],[home]):=⟨h,rfl,rfl,rfl,fun i hi=>by simp at hi⟩
theorem Jz.act{g:Gr}(hR:Rt g)(ho:Fs g){part:List Int}{home:Int}{s:WS}(h:Jz g part home s){a z:Int}(he:(s.1,a,z)∈Av g)(hz:z∈part):Jz g part home (Kb g s a)∧(Kb g s a).1=z∧(Kb g s a).2.1=s.2.1++[a]:=by
 have hf:=aS hR ho he;have hl:=h.len;unfold Kb;rw[hf];refine⟨⟨hz,by simp only[Bs,List.length_singleton];omega,?_,?_,?_⟩,rfl,rfl⟩
 ·simp only[Bs,List.length_singleton];rw[IQ (by omega),if_neg (by omega)]
 ·show(s.2.2++[z]).getD 0 0=home;rw[IQ (by omega),if_pos (by omega)];exact h.hd
 ·intro i hi;simp only[Bs,List.length_singleton]at hi;show((s.2.2++[z]).getD i 0,(s.2.1++[a]).getD i 0,(s.2.2++[z]).getD (i+1) 0)∈Av g∧(s.2.2++[z]).getD i 0∈part∧(s.2.2++[z]).getD (i+1) 0∈part;rw[IQ (by omega),if_pos (show i<s.2.2.length by omega),IQ (l:=s.2.1) (by omega),IQ (i:=i+1) (by omega)];by_cases e:i<s.2.1.length
  ·rw[if_pos e,if_pos (by omega)];exact h.step i e
  ·obtain rfl:i=s.2.1.length:=by omega
   rw[if_neg e,if_neg (by omega),h.last];exact⟨he,h.at_,hz⟩
theorem Pv(g:Gr):∀(l:List Int) (s:WS),(Ip g s l).2.1=s.2.1++l
 | [],s=>by simp[Ip]
 | a::l,s=>by
  have:=Pv g l (Kb g s a);unfold Ip at this ⊢;rw[List.foldl_cons,this];simp[Kb]
theorem Xg(g:Gr)(s:WS)(l:List Int)(a:Int):Ip g s (l++[a])=Kb g (Ip g s l) a:=by unfold Ip;rw[List.foldl_append];rfl
theorem Jz.run{g:Gr}(hR:Rt g)(ho:Fs g){n:Nat}{part:List Int}(hin:∀x∈part,∃i:Nat,x=(i:Int)∧i<n){home:Int}{s:WS}(h:Jz g part home s){p:List Int}{y:Int}(hw:cF g (Aj n part) s.1 p y):Jz g part home (Ip g s p)∧(Ip g s p).1=y:=by
 induction hw with
 | nil=>exact⟨h,rfl⟩
 | snoc p y a z _ he hz ih=>
  rw[Xg];obtain⟨h1,h2⟩:=ih;have hz0:=(Bt hR he).2.2.1;obtain⟨q1,q2,-⟩:=h1.act hR ho (a:=a) (z:=z) (by rw[h2];exact he) ((DX hin).1 ⟨hz,hz0⟩);exact⟨q1,q2⟩
theorem bJ{g:Gr}(hR:Rt g)(hS:g.S.length≤100000){part:List Int}(hin:∀x∈part,∃i:Nat,x=(i:Int)∧i<Ad g)(hone:(Aw g (Aj (Ad g) part)).length=1){x y:Int}(hx:x∈part)(hy:y∈part):∃p,cF g (Aj (Ad g) part) x p y:=by
 obtain⟨-,hsc⟩:=(Oe hR hS).1 hone;obtain⟨i,rfl,hi⟩:=hin x hx;obtain⟨j,rfl,hj⟩:=hin y hy;have hp:=(hsc i j hi hj ((Dm hin).2 hx) ((Dm hin).2 hy)).1;clear hx hy hj
 induction hp with
 | refl=>exact⟨[],.nil⟩
 | @step j k h1 he ih=>
  obtain⟨p,hw⟩:=ih;obtain⟨⟨e,he1,e1,e2⟩,-,hb⟩:=(UF hR hS _ _ _).1 he;refine⟨p++[e.2.1],.snoc _ _ _ _ hw ?_ ((DX hin).2 ((Dm hin).1 hb)).1⟩;rw[← e1,← e2];exact he1
theorem EJ{l:List Int}(h:0<l.length):Ay l∈l:=by
 have key:∀k,k≤l.length→GN l k∈l:=by
  intro k
  induction k with
  | zero=>intro _;exact Ch h
  | succ k ih=>
   intro hk;rw[Iy (by omega)];have h1:=ih (by omega);have h2:l.getD k 0∈l:=Ch (by omega);rcases Int.le_total (GN l k) (l.getD k 0) with q | q
   ·rw[Int.min_eq_left q];exact h1
   ·rw[Int.min_eq_right q];exact h2
 rw[← JY];exact key _ (AQ _)
structure LP(g:Gr)(en:List (List Bool))(A:Nat)(mode:Int)(part:List Int):Prop where
 R:Rt g
 hS:g.S.length≤100000
 len:en.length=Ad g
 hA:A≤100
 nd:part.Nodup
 inn:∀x∈part,∃i:Nat,x=(i:Int)∧i<Ad g
 one:(Aw g (Aj (Ad g) part)).length=1
 ags:∀e∈Av g,0≤e.2.1∧e.2.1<(A:Int)
 once:Fs g
 cyc:CV g part=true
 weak:mode=1→∀a,a<A→FC g part (a:Int)=false→∃x∈part,(en.getD x.toNat []).getD a false=false
 strong:mode=2→∀a,a<A→FC g part (a:Int)=false→∀x∈part,(en.getD x.toNat []).getD a false=false
theorem LP.ne{g:Gr}{en:List (List Bool)}{A:Nat}{mode:Int}{part:List Int}(h:LP g en A mode part):0<part.length:=MD h.cyc
theorem LP.of{g:Gr}{en:List (List Bool)}{A:Nat}{mode:Int}{part:List Int}(hS:g.S.length≤100000)(ho:Fs g)(hg:AU g en (A:Nat) mode part=true):LP g en A mode part:=by
 obtain⟨hRT,⟨hnd,hin⟩,hone,hf⟩:=CW.1 hg;have hcyc:CV g part=true:=hf.elim (fun z=>(GT.1 z.2).1) (fun z=>(GT.1 z.2).1);refine⟨hRT.right,hS,hRT.len,by have:=hRT.h1;omega,hnd,hin,hone,fun e he=>⟨(Bt hRT.right he).2.2.2.2,(hRT.edges e he).1⟩,ho,hcyc,fun hm a ha hna=>?_,fun hm a ha hna x hx=>?_⟩
 ·have h2:=(GT.1 (hf.resolve_right (fun z=>absurd z.1 (by omega))).2).2 a (by simpa using ha);unfold OA GQ at h2;rw[hna]at h2;have h3:JW en part a≠part.length:=by simpa using h2
  refine Classical.byContradiction fun hn=>h3 (Zu.2 fun x hx=>?_);cases hv:(en.getD x.toNat []).getD a false
  ·exact absurd ⟨x,hx,hv⟩ hn
  ·rfl
 ·have h2:=(GT.1 (hf.resolve_left (fun z=>absurd z.1 (by omega))).2).2 a (by simpa using ha);unfold OA Ga at h2;rw[hna]at h2;have h3:¬0<JW en part a:=by simpa using h2
  cases hv:(en.getD x.toNat []).getD a false
  ·rfl
  ·refine absurd ?_ h3;unfold JW Eu;rw[Ez];exact List.length_pos_of_mem (List.mem_filter.2 ⟨hx,hv⟩)
section
variable {g:Gr} {en:List (List Bool)} {A:Nat} {mode:Int} {part:List Int}
theorem KZ(h:LP g en A mode part){a:Int}{i:Nat}:Mi g (Aj (Ad g) part) a i=true↔∃z,((i:Int),a,z)∈Av g∧z∈part:=by
 unfold Mi;rw[List.any_eq_true];constructor
 ·rintro⟨e,he,hp⟩;unfold cU at hp;rw[Ci,EU]at hp;obtain⟨h1,h2⟩:=BZ.1 he;have h3:=(Bt h.R h1).2.2.1;have h4:=(Dm h.inn).1 hp.2;rw[Int.toNat_of_nonneg h3]at h4;refine⟨e.2.2,?_,h4⟩;rw[← h2,← hp.1];exact h1
 ·rintro⟨z,he,hz⟩;refine⟨_,BZ.2 ⟨he,rfl⟩,?_⟩;have h3:=(Bt h.R he).2.2.1;unfold cU;rw[Ci,EU];refine⟨rfl,(Dm h.inn).2 ?_⟩;simp only at h3 ⊢;rw[Int.toNat_of_nonneg h3];exact hz
theorem Hz(h:LP g en A mode part)(a:Nat):(GF g (Aj (Ad g) part) (Ad g) a=-1∧FC g part (a:Int)=false)∨
 ∃(i:Nat) (z:Int),GF g (Aj (Ad g) part) (Ad g) a=(i:Int)∧(i:Int)∈part∧z∈part∧((i:Int),(a:Int),z)∈Av g∧∀e∈Av g,e.2.1=(a:Int)→e.1∈part→e.2.2∈part→(i:Int)≤e.1:=by
 unfold GF;rcases Ke (fun i=>(Aj (Ad g) part).getD i false&&Mi g (Aj (Ad g) part) (a:Int) i) (Ad g) with⟨e,hn⟩ | ⟨i,hi,e,hp,hn⟩
 ·refine .inl ⟨e,?_⟩;cases hb:FC g part (a:Int)
  ·rfl
  ·obtain⟨ed,he,h1,h2,h3⟩:=Km.1 hb;obtain⟨j,hj,hjn⟩:=h.inn _ h2;have:=hn j hjn;rw[Bool.and_eq_false_iff]at this;rw[hj]at h2;rcases this with q | q
   ·rw[(Dm h.inn).2 h2]at q;cases q
   ·rw[(KZ h).2 ⟨ed.2.2,by rw[← hj,← h1];exact he,h3⟩]at q;cases q
 ·simp only[Ci]at hp;obtain⟨z,hz1,hz2⟩:=(KZ h).1 hp.2;refine .inr ⟨i,z,e,(Dm h.inn).1 hp.1,hz2,hz1,fun ed he h1 h2 h3=>?_⟩;obtain⟨j,hj,hjn⟩:=h.inn _ h2;refine Classical.byContradiction fun hlt=>?_;have:=hn j (by omega);rw[Bool.and_eq_false_iff]at this;rw[hj]at h2;rcases this with q | q
  ·rw[(Dm h.inn).2 h2]at q;cases q
  ·rw[(KZ h).2 ⟨ed.2.2,by rw[← hj,← h1];exact he,h3⟩]at q;cases q
theorem Hv(h:LP g en A mode part){a:Nat}(hx:∃x∈part,(en.getD x.toNat []).getD a false=false):∃i:Nat,Il en (Aj (Ad g) part) (Ad g) a=(i:Int)∧(i:Int)∈part∧(en.getD i []).getD a false=false:=by
 unfold Il;rcases Ke (JL en (Aj (Ad g) part) a) (Ad g) with⟨e,hn⟩ | ⟨i,hi,e,hp,-⟩
 ·obtain⟨x,hx1,hx2⟩:=hx;obtain⟨j,rfl,hj⟩:=h.inn _ hx1;have:=hn j hj;unfold JL at this;rw[(Dm h.inn).2 hx1]at this;simp only[BT]at hx2;rw[hx2]at this;cases this
 ·unfold JL at hp;rw[Ci,Bool.not_eq_true']at hp;exact⟨i,e,(Dm h.inn).1 hp.1,hp.2⟩
theorem GV(h:LP g en A mode part){home:Int}{s:WS}(hI:Jz g part home s){t:Int}(ht:t∈part):
 Jz g part home (Da g (Aj (Ad g) part) s t)∧(Da g (Aj (Ad g) part) s t).1=t∧(Da g (Aj (Ad g) part) s t).2.1=s.2.1++(EB g (Aj (Ad g) part) s.1 t).getD []∧((EB g (Aj (Ad g) part) s.1 t).getD []).length+1≤part.length:=by
 obtain⟨h1,h2⟩:=(DX h.inn).2 hI.at_;obtain⟨p,e,hw,hl⟩:=VJ (g:=g) (inl:=Aj (Ad g) part) (tgt:=t) (part:=part) h1 h2 (fun x hx h0=>(DX h.inn).1 ⟨hx,h0⟩) (bJ h.R h.hS h.inn h.one hI.at_ ht);obtain⟨q1,q2⟩:=hI.run h.R h.once h.inn hw;unfold Da;rw[e];exact⟨q1,q2,Pv _ _ _,hl⟩
theorem YY(h:LP g en A mode part){home:Int}{s:WS}(hI:Jz g part home s){a:Nat}(ha:a<A):
 Jz g part home (Ij g en mode (Aj (Ad g) part) (Ad g) s a)∧(Ij g en mode (Aj (Ad g) part) (Ad g) s a).2.1.length≤s.2.1.length+part.length∧
  (∃q,(Ij g en mode (Aj (Ad g) part) (Ad g) s a).2.1=s.2.1++q)∧
  (FC g part (a:Int)=true→(a:Int)∈(Ij g en mode (Aj (Ad g) part) (Ad g) s a).2.1)∧
  (FC g part (a:Int)=false→mode=1→(en.getD (Ij g en mode (Aj (Ad g) part) (Ad g) s a).1.toNat []).getD a false=false):=by
 have hne:=h.ne;rcases Hz h a with⟨e,hb⟩ | ⟨i,z,e,hi,hz,he,-⟩
 ·unfold Ij;rw[if_pos e];by_cases hm:mode=1
  ·rw[if_pos hm];obtain⟨i,e1,e2,e3⟩:=Hv h (h.weak hm a ha hb);rw[e1];obtain⟨q1,q2,q3,q4⟩:=GV h hI e2;refine⟨q1,by rw[q3,Bs];omega,⟨_,q3⟩,fun q=>(by rw[hb]at q;cases q),fun _ _=>?_⟩;rw[q2,BT];exact e3
  ·rw[if_neg hm];exact⟨hI,by omega,⟨[],by simp⟩,fun q=>(by rw[hb]at q;cases q),fun _ q=>absurd q hm⟩
 ·have hn1:(i:Int)≠-1:=by omega
  have hact:FC g part (a:Int)=true:=Km.2 ⟨_,he,rfl,hi,hz⟩;unfold Ij;rw[e,if_neg hn1];obtain⟨q1,q2,q3,q4⟩:=GV h hI hi;obtain⟨r1,r2,r3⟩:=q1.act h.R h.once (a:=(a:Int)) (z:=z) (by rw[q2];exact he) hz;refine⟨r1,by rw[r3,q3];simp only[Bs,List.length_singleton];omega,⟨_,by rw[r3,q3,List.append_assoc]⟩,fun _=>by rw[r3];simp,fun q=>(by rw[hact]at q;cases q)⟩
theorem Ng(h:LP g en A mode part){home:Int}(hh:home∈part):∀k,k≤A→Jz g part home (Jy g en mode (Aj (Ad g) part) (Ad g) home k)∧(Jy g en mode (Aj (Ad g) part) (Ad g) home k).2.1.length≤k*part.length
 | 0,_=>⟨Jz.start g hh,by simp[Jy]⟩
 | k+1,hk=>by
  obtain⟨h1,h2⟩:=Ng h hh k (by omega);obtain⟨q1,q2,-⟩:=YY h h1 (a:=k) (by omega);rw[Jy];refine⟨q1,?_⟩;rw[Nat.succ_mul];omega
theorem Oa(h:LP g en A mode part):part.length≤Ad g:=by
 have:=FU (a:=part) (b:=(List.range (Ad g)).map (fun k:Nat=>(k:Int))) h.nd (fun x hx=>by
  obtain⟨i,rfl,hi⟩:=h.inn x hx;exact DJ.2 ⟨i,Cg.2 hi,rfl⟩)
 simpa using this
theorem eS(h:LP g en A mode part):Vu g en (A:Nat) mode part:=by
 have hh:=EJ h.ne;have hpl:=Oa h;have hN:=Ap h.R;have hS:=h.hS;refine⟨⟨fun k hk=>?_,fun k hk hne=>?_,fun k hk hna hm=>?_⟩,(DX h.inn).2 hh,h.ne⟩
 ·rw[BT]at hk;obtain⟨h1,h2⟩:=Ng h hh k hk;obtain⟨m1,m2⟩:=(DX h.inn).2 h1.at_;have h3:k*part.length≤k*100001:=Nat.mul_le_mul_left _ (by omega);refine⟨m1,m2,by omega,by have:=h1.len;omega⟩
 ·rcases Hz h k with⟨e,-⟩ | ⟨i,z,e,hi,-⟩
  ·exact absurd e hne
  ·rw[e];exact(DX h.inn).2 hi
 ·rw[BT]at hk;rcases Hz h k with⟨-,hb⟩ | ⟨i,z,e,-⟩
  ·obtain⟨i,e1,e2,-⟩:=Hv h (h.weak hm k hk hb);rw[e1];exact(DX h.inn).2 e2
  ·rw[e]at hna;omega
end
section
variable {g:Gr} {en:List (List Bool)} {A:Nat} {mode:Int} {part:List Int}
theorem KJ(h:LP g en A mode part){home:Int}(hh:home∈part):Jz g part home (Gx g en mode (Aj (Ad g) part) (Ad g) home A)∧(Gx g en mode (Aj (Ad g) part) (Ad g) home A).1=home∧
 (Gx g en mode (Aj (Ad g) part) (Ad g) home A).2.1=(Jy g en mode (Aj (Ad g) part) (Ad g) home A).2.1++(EB g (Aj (Ad g) part) (Jy g en mode (Aj (Ad g) part) (Ad g) home A).1 home).getD []∧(Gx g en mode (Aj (Ad g) part) (Ad g) home A).2.1.length≤(A+1)*part.length:=by
 obtain⟨h1,h2⟩:=Ng h hh A (AQ _);obtain⟨q1,q2,q3,q4⟩:=GV h h1 hh;refine⟨q1,q2,q3,?_⟩;unfold Gx;rw[q3,Bs,Nat.succ_mul];omega
theorem VK(hR:Rt g)(ho:Fs g){home:Int}{s:WS}(hI:Jz g part home s)(hin:∀x∈part,∃i:Nat,x=(i:Int)∧i<Ad g)(hh:home∈part):∀i,i≤s.2.1.length→Gl g home (s.2.1.take i)=s.2.2.getD i 0:=by
 obtain⟨j,hj,hjn⟩:=hin home hh;have hr:0≤home∧home<(Ad g:Int):=by omega
 intro i;unfold Gl;rw[if_pos hr]
 induction i with
 | zero=>intro _;rw[List.take_zero,hI.hd];rfl
 | succ i ih=>
  intro hi;have ih:=ih (by omega);obtain⟨h1,h2,h3⟩:=hI.step i (by omega);have e:s.2.1.take (i+1)=s.2.1.take i++[s.2.1.getD i 0]:=by
   rw[List.take_add_one,AM,Bf (by omega)];rfl
  have h0:=(Bt hR h1).1;rw[e,Ly _ _ (by rw[ih];simp only at h0;omega),ih,Ow ho h1]
end
theorem Nn{g:Gr}{en:List (List Bool)}{ag mode:Int}{part:List Int}(hS:g.S.length≤1000)(ho:Fs g)(hg:AU g en ag mode part=true):Vu g en ag mode part:=by
 have e:=EP hg;obtain⟨A,rfl⟩:∃A:Nat,ag=(A:Int):=⟨_,e⟩;exact eS (LP.of (by omega) ho hg)
end Go.Proofs.YtlhpjfnfemebdaaGreat
