/- trail.Follow, ref16.Follow: the walks. ref16.Follow: the -/
import Derived.Test.YtlhpjfnfemebdaaGreatCyclic
import Derived.Test.YtlhpjfnfemebdaaGreatJPartsMem
import Derived.Test.YtlhpjfnfemebdaaGreatJRowsM
import Derived.Test.YtlhpjfnfemebdaaGreatSccLaw
import Derived.Test.YtlhpjfnfemebdaaGreatFairB
set_option maxRecDepth 100000
set_option maxHeartbeats 64000000
set_option linter.unusedSimpArgs false
namespace Go.Proofs.YtlhpjfnfemebdaaGreat
open Go.RowKit
def Hk(el:List Ed)(a:Int):Int:=match el.find? (fun e=>decide (e.2.1=a)) with | some e=>e.2.2 | none=>-1
def Mt(g:Gr)(x a:Int):Int:=Hk (AR g x) a
theorem Vj{a:Int}:∀{el:List Ed} {k:Nat},k<el.length→(∀j,j<k→(el.getD j (0,0,0)).2.1≠a)→(el.getD k (0,0,0)).2.1=a→Hk el a=(el.getD k (0,0,0)).2.2
 | [],k,hk,_,_=>by simp at hk
 | r::el,0,_,_,h=>by
  have h':r.2.1=a:=h;unfold Hk;rw[List.find?_cons_of_pos (by simpa using h')];rfl
 | r::el,k+1,hk,ha,h=>by
  have h0:r.2.1≠a:=ha 0 (by omega);have:=Vj (el:=el) (k:=k) (by simpa using hk) (fun j hj=>by simpa using ha (j+1) (by omega)) (by simpa using h);unfold Hk at this ⊢;rw[List.find?_cons_of_neg (by simpa using h0),this];simp
theorem Vw{a:Int}{el:List Ed}(h:∀j,j<el.length→(el.getD j (0,0,0)).2.1≠a):Hk el a=-1:=by
 unfold Hk;rw[List.find?_eq_none.2 ?_];intro r hr;obtain⟨j,hj,rfl⟩:=Ey hr;have:=h j hj;rw[AM,Bf hj]at this;simpa using this
def Fy(g:Gr):Int→List Int→Int
 | x,[]=>x
 | x,a::p=>if Mt g x a=-1 then -1 else Fy g (Mt g x a) p
def Gl(g:Gr)(x:Int)(p:List Int):Int:=if 0≤x∧x<(Ad g:Int) then Fy g x p else -1
theorem Ya{l:List Int}{k:Nat}(h:k<l.length):l.drop k=l.getD k 0::l.drop (k+1):=by
 rw[List.drop_eq_getElem_cons h,AM,Bf h];rfl
theorem eJ(v1 v2 v3:Value)(g:Gr)(x a:Int)(gb fb:Nat)(w:World)(hg:Ao w (.agg #[v1,v2,v3]) g)(hgb:w.heap[gb]?=some (.cells #[v1,v2,v3] 32 (0,0)))(hfb:w.heap[fb]?=some (.cells #[.int .i64 x] 3 (0,0))):
 Calls Tryz.prog 108 #[.int .i64 a,.pointer (some ⟨gb,0,none⟩),.pointer (some ⟨fb,0,none⟩)] w fun e w'=>e=.returned (.int .i64 (Mt g x a))∧Below w.heap.size w w':=by
 have HO:=Aa (NT _ g x w hg);have hol:(AR g x).length≤1000000:=CP (Fk g _) hg.sT;obtain⟨c0,c1,c2⟩:=DY hgb;have c3:=Ab hfb 0 _ rfl;have HA:=Aa (fun k (hk:k<(AR g x).length) h1 h2=>Vj (el:=AR g x) (a:=a) hk h1 h2);have HN:=Aa (Vw (el:=AR g x) (a:=a));unfold Mt;clear hg hgb hfb;generalize Hk (AR g x) a=R at*;generalize AR g x=el at*;go_enter Tryz.func108,Tryz.ntmps108;go_wp2_with (go_at_call 83;refine HO.out.mono ?_;rintro e w3 ⟨rv,rfl,hE,hb3⟩;obtain⟨ea,ec,rfl,hE⟩:=hE;have HED:=Aa hE;have HB3:=Aa hb3;clear hb3 hE)
 clear c0 c1 c2 c3;go_loopg [11] el.length (fun fu c wr=>∃r:Nat,r+fu=el.length∧c=.int .i64 r∧(∀j,j<r→(el.getD j (0,0,0)).2.1≠a)∧Hid (Below w3.heap.size w3 wr))
 case atStart=>exact⟨0,by omega,rfl,fun j hj=>by omega,Aa (Ak _ _)⟩
 case round=>
  obtain⟨r,hr,rfl,hall2,hbr2⟩:=hrel;by_cases hlt3:r<el.length
  ·obtain⟨b3,o3,rfl,e1,e2,e3⟩:=HED.out r hlt3;obtain⟨y1,y2,y3⟩:=JN hbr2.out e1 e2 e3;have z3:(r:Int)<(el.length:Int):=by omega
   have HT:=Aa (fun h2=>HA.out r hlt3 hall2 h2);have HAL2:=Aa hall2;have HNX2:Hid ((el.getD r (0,0,0)).2.1≠a→∀j,j<r+1→(el.getD j (0,0,0)).2.1≠a):=Aa (fun hne j hj=>by
    by_cases e:j=r
    ·rw[e];exact hne
    ·exact HAL2.out j (by omega))
   clear e1 e2 e3 hall2;generalize el.getD r (0,0,0)=ed at*;obtain⟨ex,ey,ez⟩:=ed;have HB4:=Aa ((hbr2.out.trans ((Ae wr (.cells #[.int .i64 ex,.int .i64 ey,.int .i64 ez] 54)).mono hbr2.out.size)));by_cases hz:ey=a
   ·have E:=Aa (HT.out hz);subst hz;go_wp2_with fail
    go_ret;exact⟨by rw[E.out];rfl,HB3.out.trans (HB4.out.mono HB3.out.size)⟩
   ·have hz2:(ey==a)=false:=by simp[hz]
    go_wp2_with fail
    go_roundg (el.length - (r+1))
    case measure=>omega
    case rel=>exact⟨r+1,by omega,by simp,HNX2.out hz,HB4⟩
  ·obtain rfl:r=el.length:=by omega
   have E:=Aa (HN.out hall2);go_wp2_with fail
   go_ret;exact⟨by rw[E.out];rfl,HB3.out.trans (hbr2.out.mono HB3.out.size)⟩
structure Nz(w wr:World)(gc:Array Value)(x:Int):Prop where
 below:Below w.heap.size w wr
 vg:wr.heap[w.heap.size]?=some (.cells gc 32 (0,0))
 vf:wr.heap[w.heap.size+1]?=some (.cells #[.int .i64 x] 3 (0,0))
theorem Nz.start(w:World)(gc:Array Value)(x:Int):Nz w ((w.alloc (.cells gc 32)).alloc (.cells #[.int .i64 x] 3)) gc x:=
 ⟨(Ae w _).trans ((Ae (w.alloc (.cells gc 32)) _).mono (Ae w _).size),Ah (Ae (w.alloc (.cells gc 32)) _) (Ar w _),AG _ _ _ (by simp)⟩
theorem Nz.more{w wr w':World}{gc:Array Value}{x:Int}(h:Nz w wr gc x)(hb:Below wr.heap.size wr w'):Nz w w' gc x:=⟨h.below.trans (hb.mono h.below.size),Ah hb h.vg,Ah hb h.vf⟩
theorem Nz.set{w wr:World}{gc:Array Value}{x:Int}(h:Nz w wr gc x)(y:Int):Nz w (wr.setCell ⟨w.heap.size+1,0,none⟩ (.int .i64 y)) gc y:=by
 refine⟨h.below.setCell (p:=⟨w.heap.size+1,0,none⟩) (Nat.le_succ _) _,?_,?_⟩
 ·rw[Below.heap_setCell _ _ _ _ (by simp)];exact h.vg
 ·rw[Ac h.vf];rfl
theorem eL(v pv:Value)(g:Gr)(x:Int)(p:List Int)(w:World)(h:Ao w v g)(hp:Am w pv p)(hl:p.length≤1000000):
 Calls Tryz.prog 85 #[v,.int .i64 x,pv] w fun e w'=>e=.returned (.int .i64 (Gl g x p))∧Below w.heap.size w w':=by
 obtain⟨sa,aa,ta,sc,ac,tc,rfl,-⟩:=h.var;have S0:=Aa (Nz.start w #[.slice sa g.S.length sc,.slice aa g.A.length ac,.slice ta g.T.length tc] x);have HN:=Aa (fun(w':World) (hb:Below w.heap.size w w')=>Hb _ g w' (h.below hb));have HX:=Aa (fun(w':World) (y a:Int) (hs:Nz w w' #[.slice sa g.S.length sc,.slice aa g.A.length ac,.slice ta g.T.length tc] y)=>eJ _ _ _ g y a w.heap.size (w.heap.size+1) w' (h.below hs.below) hs.vg hs.vf);obtain⟨pa,pc,rfl,hpc⟩:=hp;have HP:=Aa hpc;have HD:=Aa (fun k (hk:k<p.length)=>Ya hk);clear h hpc;obtain⟨c0,c1,c2⟩:=DY S0.out.vg;have c3:=Ab S0.out.vf 0 _ rfl;have f0:∀i:Bk ((w.alloc (.cells #[.slice sa g.S.length sc,.slice aa g.A.length ac,.slice ta g.T.length tc] 32)).alloc (.cells #[.int .i64 x] 3)),i.1.cell? ⟨w.heap.size,0,none⟩=some (.slice sa g.S.length sc):=fun i=>i.cell c0;have f1:∀i:Bk ((w.alloc (.cells #[.slice sa g.S.length sc,.slice aa g.A.length ac,.slice ta g.T.length tc] 32)).alloc (.cells #[.int .i64 x] 3)),i.1.cell? ⟨w.heap.size,1,none⟩=some (.slice aa g.A.length ac):=fun i=>i.cell c1;have f2:∀i:Bk ((w.alloc (.cells #[.slice sa g.S.length sc,.slice aa g.A.length ac,.slice ta g.T.length tc] 32)).alloc (.cells #[.int .i64 x] 3)),i.1.cell? ⟨w.heap.size,2,none⟩=some (.slice ta g.T.length tc):=fun i=>i.cell c2;have f3:∀i:Bk ((w.alloc (.cells #[.slice sa g.S.length sc,.slice aa g.A.length ac,.slice ta g.T.length tc] 32)).alloc (.cells #[.int .i64 x] 3)),i.1.cell? ⟨w.heap.size+1,0,none⟩=some (.int .i64 x):=fun i=>i.cell c3;have HNN:=Aa (fun(i:Bk ((w.alloc (.cells #[.slice sa g.S.length sc,.slice aa g.A.length ac,.slice ta g.T.length tc] 32)).alloc (.cells #[.int .i64 x] 3)))=>HN.out i.1 (S0.out.below.trans (i.2.mono S0.out.below.size)));clear c0 c1 c2 c3;by_cases h0:x<0
 ·have E:Gl g x p=-1:=if_neg (by omega);rw[E];clear E;go_enter Tryz.func85,Tryz.ntmps85;go_wp2_with fail
  refine AD (by kernel_rfl) (by kernel_rfl) ?_;repeat (go_big_quiet_step (fail))
  refine wpQuiet_nil ?_;intro w4 hb4;have S4:=Aa (S0.out.more hb4);clear hb4;go_wp2_with fail
  go_ret;exact⟨rfl,S4.out.below⟩
 have hd0:decide (x<0)=false:=Cj h0;by_cases h1:(Ad g:Int)≤x
 ·have E:Gl g x p=-1:=if_neg (by omega);rw[E];clear E;go_enter Tryz.func85,Tryz.ntmps85;go_wp2_with fail
  refine AD (by kernel_rfl) (by kernel_rfl) ?_;repeat (go_big_quiet_step ((go_at_call 97;exact Calls.sub_of (HNN.out _))))
  refine wpQuiet_nil ?_;intro w4 hb4;have S4:=Aa (S0.out.more hb4);clear hb4;go_wp2_with fail
  go_ret;exact⟨rfl,S4.out.below⟩
 have E:Gl g x p=Fy g x p:=if_pos (by omega);rw[E];clear E;have KC:Hid (∀y k,k<p.length→Fy g y (p.drop k)=if Mt g y (p.getD k 0)=-1 then -1 else Fy g (Mt g y (p.getD k 0)) (p.drop (k+1))):=Aa (fun y k hk=>by rw[HD.out k hk];rfl);have K0:Hid (∀y,Fy g y (p.drop p.length)=y):=Aa (fun y=>by rw[List.drop_length];rfl);obtain⟨FK,hFK⟩:∃f:Int→Nat→Int,∀y k,f y k=Fy g y (p.drop k):=⟨fun y k=>Fy g y (p.drop k),fun _ _=>rfl⟩;have e0:Fy g x p=FK x 0:=by rw[hFK];rfl
 rw[e0];simp only[← hFK]at KC K0;clear hFK e0 HD;generalize Mt g=NX at*;obtain⟨n,hnn⟩:∃n,p.length=n:=⟨_,rfl⟩;rw[hnn]at HP KC K0 hl ⊢;clear hnn;go_enter Tryz.func85,Tryz.ntmps85;go_wp2_with fail
 refine AD (by kernel_rfl) (by kernel_rfl) ?_;repeat (go_big_quiet_step ((go_at_call 97;exact Calls.sub_of (HNN.out _))))
 refine wpQuiet_nil ?_;intro w4 hb4;have S4:=Aa (S0.out.more hb4);clear hb4 f0 f1 f2 f3 HNN;go_wp2_with fail
 go_loopg [21] n (fun fu c wr=>∃(k:Nat) (y:Int),k+fu=n∧c=.int .i64 k∧Hid (FK x 0=FK y k)∧Hid (Nz w wr #[.slice sa g.S.length sc,.slice aa g.A.length ac,.slice ta g.T.length tc] y))
 case atStart=>exact⟨0,x,by omega,rfl,Aa rfl,S4⟩
 case round=>
  clear S4;obtain⟨k,y,hk,rfl,HF,HS⟩:=hrel;by_cases hlt:k<n
  ·have z1:(k:Int)<(n:Int):=by omega
   obtain⟨b1,o1,rfl,d1⟩:=HP.out k hlt;have y1:=Af HS.out.below d1;have HC:=Aa (HX.out wr y (p.getD k 0) HS.out);have KK:=KC.out y k hlt;clear d1;generalize p.getD k 0=a at*;by_cases hz:NX y a=-1
   ·have E:Hid (FK x 0=-1):=Aa (by rw[HF.out,KK,if_pos hz]);rw[hz]at HC;clear KK hz;go_wp2_with (go_at_call 108;refine HC.out.mono ?_;rintro e w5 ⟨rfl,hb5⟩;have S5:=Aa (HS.out.more hb5);have c3:=Ab S5.out.vf 0 _ rfl;have g3:=Ag S5.out.vf 0;have S6:=Aa (S5.out.set (-1));have c4:=Ab S6.out.vf 0 _ rfl;clear hb5)
    go_ret;exact⟨by rw[E.out];rfl,S6.out.below⟩
   ·have E:Hid (FK x 0=FK (NX y a) (k+1)):=Aa (by rw[HF.out,KK,if_neg hz]);have hz2:(NX y a==-1)=false:=Bh hz;clear KK hz;generalize NX y a=y' at*;go_wp2_with (go_at_call 108;refine HC.out.mono ?_;rintro e w5 ⟨rfl,hb5⟩;have S5:=Aa (HS.out.more hb5);have c3:=Ab S5.out.vf 0 _ rfl;have g3:=Ag S5.out.vf 0;have S6:=Aa (S5.out.set y');have c4:=Ab S6.out.vf 0 _ rfl;clear hb5)
    go_roundg (n - (k+1))
    case measure=>omega
    case rel=>exact⟨k+1,y',by omega,by simp,E,S6⟩
  ·obtain rfl:k=n:=by omega
   have E:Hid (FK x 0=y):=Aa (by rw[HF.out,K0.out]);have c3:=Ab HS.out.vf 0 _ rfl;go_wp2_with fail
   go_ret;exact⟨by rw[E.out];rfl,HS.out.below⟩
theorem Hq{g:Gr}{x:Int}{e:Ed}(he:e∈AR g x):0≤e.2.2∧e.2.2<(Ad g:Int)∧0≤e.2.1∧e.1=x∧Rt g:=by
 obtain⟨h1,h2⟩:=BZ.1 he;cases hr:Bj g
 ·rw[Gf hr]at h1;cases h1
 ·have hR:=(Aq g).1 hr;have h3:=Bt hR h1;have h4:=Ap hR;exact⟨by omega,by omega,by omega,h2,hR⟩
theorem WD(g:Gr)(x a:Int):Mt g x a=-1∨(0≤Mt g x a∧Mt g x a<(Ad g:Int)):=by
 unfold Mt Hk;split
 ·rename_i e he;have:=Hq (List.mem_of_find?_eq_some he);exact .inr ⟨this.1,this.2.1⟩
 ·exact .inl rfl
theorem eK{l:List Ed}{k:Nat}(h:k<l.length):l.drop k=l.getD k (0,0,0)::l.drop (k+1):=by
 rw[List.drop_eq_getElem_cons h,AM,Bf h];rfl
theorem Wq(e:Ed)(l:List Ed)(a:Int):Hk (e::l) a=if e.2.1=a then e.2.2 else Hk l a:=by
 unfold Hk;by_cases h:e.2.1=a
 ·rw[if_pos h,List.find?_cons_of_pos (by simpa using h)]
 ·rw[if_neg h,List.find?_cons_of_neg (by simpa using h)]
theorem aK(v pv:Value)(g:Gr)(x:Int)(p:List Int)(w:World)(h:Ao w v g)(hp:Am w pv p)(hl:p.length≤1000000):
 Calls Tryz.prog 13 #[v,.int .i64 x,pv] w fun e w'=>e=.returned (.int .i64 (Gl g x p))∧Below w.heap.size w w':=by
 obtain⟨sa,aa,ta,sc,ac,tc,rfl,-⟩:=h.var;have hb:=Ae w (.cells #[.slice sa g.S.length sc,.slice aa g.A.length ac,.slice ta g.T.length tc] 32);have HB:=Aa hb;have X0:=Aa (Ar w (.cells #[.slice sa g.S.length sc,.slice aa g.A.length ac,.slice ta g.T.length tc] 32));have HN:=Aa (El _ g _ (h.below hb));have HO:=Aa (fun(w':World) (hb:Below w.heap.size w w') (y:Int)=>ZO _ g y w' (h.below hb));have OL:Hid (∀y,(AR g y).length≤1000000):=Aa (fun y=>CP (Fk g _) h.sT);obtain⟨pa,pc,rfl,hpc⟩:=hp;have HP:=Aa hpc;have HD:=Aa (fun k (hk:k<p.length)=>Ya hk);clear h hpc hb;by_cases h0:x<0
 ·have E:Gl g x p=-1:=if_neg (by omega);rw[E];clear E;go_enter Tryz.func13,Tryz.ntmps13;go_wp2_with fail
  go_ret;exact⟨rfl,HB.out⟩
 by_cases h1:(Ad g:Int)≤x
 ·have E:Gl g x p=-1:=if_neg (by omega);rw[E];clear E;go_enter Tryz.func13,Tryz.ntmps13;go_wp2_with (go_at_call 30;refine HN.out.mono ?_;rintro e w1 ⟨rfl,hb1⟩;have HB1:=Aa (HB.out.trans (hb1.mono HB.out.size));clear hb1)
  go_ret;exact⟨rfl,HB1.out⟩
 have E:Gl g x p=Fy g x p:=if_pos (by omega);rw[E];clear E;have KC:Hid (∀y k,k<p.length→Fy g y (p.drop k)=if Mt g y (p.getD k 0)=-1 then -1 else Fy g (Mt g y (p.getD k 0)) (p.drop (k+1))):=Aa (fun y k hk=>by rw[HD.out k hk];rfl);have K0:Hid (∀y,Fy g y (p.drop p.length)=y):=Aa (fun y=>by rw[List.drop_length];rfl);obtain⟨FK,hFK⟩:∃f:Int→Nat→Int,∀y k,f y k=Fy g y (p.drop k):=⟨fun y k=>Fy g y (p.drop k),fun _ _=>rfl⟩;have e0:Fy g x p=FK x 0:=by rw[hFK];rfl
 rw[e0];simp only[← hFK]at KC K0;clear hFK e0 HD;have NXC:Hid (∀y a,Mt g y a=-1∨0≤Mt g y a):=Aa (fun y a=>(WD g y a).imp id (fun h=>h.1));have NXE:Hid (∀y a,Hk (AR g y) a=Mt g y a):=Aa (fun _ _=>rfl);generalize Mt g=NX at*;generalize AR g=OU at*;obtain⟨n,hnn⟩:∃n,p.length=n:=⟨_,rfl⟩;rw[hnn]at HP KC K0 hl ⊢;clear hnn;go_enter Tryz.func13,Tryz.ntmps13;go_wp2_with (go_at_call 30;refine HN.out.mono ?_;rintro e w1 ⟨rfl,hb1⟩;have HB1:=Aa (HB.out.trans (hb1.mono HB.out.size));have X1:=Aa (Ah hb1 X0.out);clear hb1)
 go_loopg [1,7] n (fun fu xv c wr=>∃(k:Nat) (y:Int),k+fu=n∧c=.int .i64 k∧xv=.int .i64 y∧Hid (FK x 0=FK y k)∧Hid (Below w1.heap.size w1 wr))
 case atStart=>exact⟨0,x,by omega,rfl,rfl,Aa rfl,Aa (Ak _ _)⟩
 case round=>
  obtain⟨k,y,hk,rfl,rfl,HF,HBR⟩:=hrel;by_cases hlt:k<n
  ·have z1:(k:Int)<(n:Int):=by omega
   obtain⟨b1,o1,rfl,d1⟩:=HP.out k hlt;have HBW:=Aa (HB1.out.trans (HBR.out.mono HB1.out.size));have HOO:=Aa (HO.out wr HBW.out y);have KK:=KC.out y k hlt;have NC:=NXC.out y (p.getD k 0);have NE:=NXE.out y (p.getD k 0);have hol:=OL.out y;have hx:=Ah HBR.out X1.out;obtain⟨c0,c1,c2⟩:=DY hx;have DE:=Aa (fun r (hr:r<(OU y).length)=>eK hr);clear hx;generalize OU y=el at*;generalize p.getD k 0=a at*;have D1:=Aa d1;have NEH:=Aa NE;have KKH:=Aa KK;have NCH:=Aa NC;clear KK NE NC d1;go_wp2_with (go_at_call 31;refine HOO.out.mono ?_;rintro e w3 ⟨rv,rfl,hE,hb3⟩;obtain⟨ea,ec,rfl,hE⟩:=hE;have HED:=Aa hE;have HB3:=Aa (HBR.out.trans (hb3.mono HBR.out.size));have HBW3:=Aa (HBW.out.trans (hb3.mono HBW.out.size));clear hb3 hE)
   clear c0 c1 c2;go_loopg [9,10] el.length (fun fu nv c wr=>∃r:Nat,r=fu∧r≤el.length∧c=.int .i64 ((r:Int) - 1)∧nv=.int .i64 (Hk (el.drop r) a)∧Hid (Below w3.heap.size w3 wr))
   case atStart=>exact⟨el.length,rfl,AQ _,rfl,by rw[List.drop_length];rfl,Aa (Ak _ _)⟩
   case round=>
    obtain⟨r,hr,hrl,rfl,rfl,HBR2⟩:=hrel;cases r with
    | zero=>
     clear hr;have E0:Hk (el.drop 0) a=NX y a:=by rw[← NEH.out];rfl
     rw[E0];have HBE:=Aa (HB3.out.trans (HBR2.out.mono HB3.out.size));by_cases hz:NX y a=-1
     ·have E:Hid (FK x 0=-1):=Aa (by rw[HF.out,KKH.out,if_pos hz]);rw[hz];go_wp2_with fail
      go_ret;exact⟨by rw[E.out];rfl,HBW3.out.trans (HBR2.out.mono HBW3.out.size)⟩
     ·have E:Hid (FK x 0=FK (NX y a) (k+1)):=Aa (by rw[HF.out,KKH.out,if_neg hz]);have hz2:¬NX y a<0:=by have:=NCH.out;omega
      clear E0 hz;generalize NX y a=y' at*;go_wp2_with fail
      go_roundg (n - (k+1))
      case measure=>omega
      case rel=>exact⟨k+1,y',by omega,by simp,rfl,E,HBE⟩
    | succ r=>
     have hrl2:r<el.length:=by omega
     have e0:(((r+1:Nat):Int) - 1)=(r:Int):=by omega
     rw[e0];have z3:(r:Int)<(el.length:Int):=by omega
     obtain⟨b3,o3,rfl,e1,e2,e3⟩:=HED.out r hrl2;obtain⟨y1,y2,y3⟩:=JN HBR2.out e1 e2 e3;have y4:=Af (HBW3.out.trans (HBR2.out.mono HBW3.out.size)) D1.out;have DD:=DE.out r hrl2;have NN:Hid (Hk (el.drop r) a=if(el.getD r (0,0,0)).2.1=a then(el.getD r (0,0,0)).2.2 else Hk (el.drop (r+1)) a):=Aa (by rw[DD,Wq]);clear e1 e2 e3 DD;generalize el.getD r (0,0,0)=ed at*;obtain⟨ex,ey,ez⟩:=ed;generalize Hk (el.drop (r+1)) a=nx at*;by_cases hz:ey=a
     ·have E:Hid (Hk (el.drop r) a=ez):=Aa (by rw[NN.out,if_pos hz]);have hz2:(ey==a)=true:=by simp[hz]
      clear hz NN;go_wp2_with fail
      (refine AI (by kernel_rfl) (by kernel_rfl) ?_;(repeat still_step);refine wpStill_nil ?_)
      go_wp2_with fail
      go_roundg r
      case measure=>omega
      case rel=>exact⟨r,rfl,by omega,by simp,by rw[E.out],Aa HBR2.out.drew⟩
     ·have E:Hid (Hk (el.drop r) a=nx):=Aa (by rw[NN.out,if_neg hz]);have hz2:(ey==a)=false:=by simp[hz]
      clear hz NN;go_wp2_with fail
      (refine AI (by kernel_rfl) (by kernel_rfl) ?_;(repeat still_step);refine wpStill_nil ?_)
      go_wp2_with fail
      go_roundg r
      case measure=>omega
      case rel=>exact⟨r,rfl,by omega,by simp,by rw[E.out],Aa HBR2.out.drew⟩
  ·obtain rfl:k=n:=by omega
   have E:Hid (FK x 0=y):=Aa (by rw[HF.out,K0.out]);go_wp2_with fail
   go_ret;exact⟨by rw[E.out];rfl,HB1.out.trans (HBR.out.mono HB1.out.size)⟩
open Go.RowKit Go.Maps
def bW:Value→Option (DataW Unit×List MemPlace)
 | .agg cs=>match cs.toList with
  | [.int .i64 a,.int .i64 b]=>some (.agg [.lit (.int .i64 a),.lit (.int .i64 b)],[])
  | _=>none
 | _=>none
def It(p:Int×Int):Value:=.agg #[.int .i64 p.1,.int .i64 p.2]
def Xe(p:Int×Int):DataW Unit:=.agg [.lit (.int .i64 p.1),.lit (.int .i64 p.2)]
theorem QC(p:Int×Int):bW (It p)=some (Xe p,[]):=rfl
theorem QZ{v:Value}{p:Int×Int}{ps:List MemPlace}(h:bW v=some (Xe p,ps)):v=It p:=by
 unfold bW at h;split at h
 ·rename_i cs;split at h
  ·rename_i a b hcs;unfold Xe at h;simp only[Option.some.injEq,Prod.mk.injEq,DataW.agg.injEq,List.cons.injEq,DataW.lit.injEq,Lit.int.injEq,true_and,and_true]at h;unfold It;rw[← h.1.1,← h.1.2]
   congr 1
   cases cs
   simp_all
  ·cases h
 ·cases h
theorem Vk(w:World):(zeroValue 146).run Tryz.prog w=.ok (It (0,0)) w:=by kernel_rfl
def Eb(w:World)(b n:Nat)(f:Int→Option (Int×Int)):Prop:=
 ∃D:DataW Unit,w.ownsMap Tryz.prog 3 bW b n D∧(∀k,has D (Mr k)=(f k).isSome)∧(∀k,D.atKey (Mr k) (Xe (0,0))=Xe ((f k).getD (0,0)))
theorem Eb.made(w:World):Eb (w.alloc (.map #[] 0)) w.heap.size 0 (fun _=>none):=
 ⟨.map [],World.ownsMap_made _ _ _ _,fun _=>rfl,fun _=>rfl⟩
section
variable {w w':World} {b n:Nat} {f:Int→Option (Int×Int)}
theorem Eb.kept(h:Eb w b n f){row:Option Nat}(hg:w.grownBy w' row)(hne:some b≠row):Eb w' b n f:=by
 obtain⟨D,h1,h2⟩:=h;exact⟨D,h1.kept hg hne,h2⟩
theorem Eb.heap(h:Eb w b n f)(he:w'.heap[b]?=w.heap[b]?):Eb w' b n f:=by
 obtain⟨D,⟨es,c,h0,h1⟩,h2⟩:=h;exact⟨D,⟨es,c,by rw[he];exact h0,h1⟩,h2⟩
theorem Eb.lt(h:Eb w b n f):b<w.heap.size:=by obtain⟨D,h1,-⟩:=h;exact h1.lt
theorem Eb.more(h:Eb w b n f)(hb:Below w.heap.size w w'):Eb w' b n f:=h.heap (hb.block b h.lt)
theorem Eb.ne(h:Eb w b n f){g:Nat}{c:Array Value}{t:TypeId}{fr:Nat×Nat}(hg:w.heap[g]?=some (.cells c t fr)):b≠g:=by
 obtain⟨D,⟨es,cl,h0,-⟩,-⟩:=h;intro e;subst e;rw[h0]at hg;cases hg
variable {ops:Array Oper} {rest:List Oper} {o:Oper} {a:Act} {Q:Exit→Act→World→Prop}
theorem FX (h:Eb w b n f) (hg:o.guard=none) {m x:Operand} (hop:o.op=Op.lookup 147 m x true) (hm:a.eval m=.map (some b)) {k:Int} (hx:a.eval x=.int .i64 k) (hw:(Lit.int .i64 k).wf=true)
 (hK:wpList Tryz.prog ops Q rest (a.put o.dst (.tuple #[It ((f k).getD (0,0)),.bool (f k).isSome])) w):wpList Tryz.prog ops Q (o::rest) a w:=by
 obtain⟨D,h1,h2,h3⟩:=h;refine wpList_plain hg fun K' hK'=>?_;obtain⟨v,ps,hrun,hv⟩:=h1.look_ok NU Tryz.underlying147 (Vk w) (QC (0,0)) (Qh hw);rw[h3 k]at hv;rw[h2 k,QZ hv]at hrun;unfold Oper.wp;simp[execOp,hop,hm,hx,hrun,Result.andThen];exact hK' _ _ hK
theorem Zj (h:Eb w b n f) (hg:o.guard=none) {m x:Operand} (hop:o.op=Op.lookup 147 m x false) (hm:a.eval m=.map (some b)) {k:Int} (hx:a.eval x=.int .i64 k) (hw:(Lit.int .i64 k).wf=true)
 (hK:wpList Tryz.prog ops Q rest (a.put o.dst (It ((f k).getD (0,0)))) w):wpList Tryz.prog ops Q (o::rest) a w:=by
 obtain⟨D,h1,h2,h3⟩:=h;refine wpList_plain hg fun K' hK'=>?_;obtain⟨v,ps,hrun,hv⟩:=h1.lookup NU Tryz.underlying147 (Vk w) (QC (0,0)) (Qh hw);rw[h3 k]at hv;rw[QZ hv]at hrun;unfold Oper.wp;simp[execOp,hop,hm,hx,hrun,Result.andThen];exact hK' _ _ hK
theorem Eb.put(h:Eb w b n f)(hn:n<maxLen){k:Int}{p:Int×Int}(hk:(Lit.int .i64 k).wf=true):
 ∃w',(Instr.mapUpdate 147 (.map (some b)) (.int .i64 k) (It p)).run Tryz.prog w=.ok () w'∧Eb w' b (n+1) (fun x=>if x=k then some p else f x)∧w.grownBy w' (some b):=by
 obtain⟨D,h1,h2,h3⟩:=h;obtain⟨w',hr,ho,hg⟩:=h1.update NU Tryz.underlying147 hn (Qh hk) (QC p);have him:=h1.isMap;refine⟨w',hr,⟨_,ho,fun x=>?_,fun x=>?_⟩,hg⟩
 ·show _=(if x=k then some p else f x).isSome;by_cases e:x=k
  ·rw[if_pos e,e,has_put_same him (Hl k)];rfl
  ·rw[if_neg e,has_put_other (fun q=>e (GR q)),h2]
 ·show _=Xe ((if x=k then some p else f x).getD (0,0));by_cases e:x=k
  ·rw[if_pos e,e,atKey_put_same him (Hl k)];rfl
  ·rw[if_neg e,atKey_put_other (fun q=>e (GR q)),h3]
theorem UM (h:Eb w b n f) (hn:n<maxLen) (hg:o.guard=none) {m x y:Operand} (hop:o.op=Op.mapUpdate 147 m x y∨o.op=Op.insert 147 m x y) (hm:a.eval m=.map (some b)) {k:Int} (hx:a.eval x=.int .i64 k) {p:Int×Int} (hy:a.eval y=.agg #[.int .i64 p.1,.int .i64 p.2])
 (hk:(Lit.int .i64 k).wf=true)
 (hK:∀w',Eb w' b (n+1) (fun x=>if x=k then some p else f x)→w.grownBy w' (some b)→wpList Tryz.prog ops Q rest (a.put o.dst undef) w'):wpList Tryz.prog ops Q (o::rest) a w:=by
 obtain⟨w',hr,ho,hgr⟩:=h.put hn hk (p:=p);unfold It at hr;refine wpList_plain hg fun K' hK'=>?_;unfold Oper.wp;rcases hop with hop | hop <;> simp[execOp,hop,hm,hx,hy,hr,Result.andThen] <;> exact hK' _ _ (hK w' ho hgr)
end
theorem Qs{w:World}{base:Nat}{e:TypeId}{g n cap:Nat}{xs:List Value}(h:w.ownsRow base e 1 (.slice (some ⟨g,0,none⟩) n cap) n xs){i:Nat}(_hi:i<n)(u:Value):
 (w.setCell ⟨g,i,none⟩ u).ownsRow base e 1 (.slice (some ⟨g,0,none⟩) n cap) n (xs.set i u)∧w.frozen? ⟨g,i,none⟩=false:=by
 obtain⟨hl,h'⟩:=h;rcases h' with⟨e',-⟩ | ⟨g',cap',cur,e',hb,hg,hn,hc,hs,ht⟩
 ·cases e'
 ·simp only[Value.slice.injEq,Option.some.injEq,Addr.mk.injEq,and_true,true_and]at e';obtain⟨rfl,rfl⟩:=e';refine⟨⟨by rw[List.length_set];exact hl,.inr ⟨g,cap,cur.setIfInBounds i u,rfl,hb,?_,hn,hc,by simpa using hs,?_⟩⟩,Ag hg i⟩
  ·rw[Ac hg]
  ·rw[← ht,Array.toList_setIfInBounds,← List.take_set]
def OY(l:List Int)(i:Nat):List Int:=(List.range l.length).map (fun j=>if j<i∨l.length≤j+i then l.getD (l.length - 1 - j) 0 else l.getD j 0)
theorem Eo(l:List Int)(i:Nat):(OY l i).length=l.length:=by simp[OY]
theorem IP{l:List Int}{i j:Nat}(h:j<l.length):(OY l i).getD j 0=if j<i∨l.length≤j+i then l.getD (l.length - 1 - j) 0 else l.getD j 0:=by
 simp[OY,AM,h]
theorem Oh{a b:List Int}(hl:a.length=b.length)(h:∀j,j<a.length→a.getD j 0=b.getD j 0):a=b:=by
 refine List.ext_getElem hl fun j h1 h2=>?_;have:=h j h1;simpa[AM,h1,h2]using this
theorem Xa(l:List Int):OY l 0=l:=by
 refine Oh (Eo _ _) fun j hj=>?_;rw[Eo]at hj;rw[IP hj,if_neg (by omega)]
theorem VQ{l:List Int}{i:Nat}(h:i<l.length - 1 - i):OY l (i+1)=((OY l i).set i (l.getD (l.length - 1 - i) 0)).set (l.length - 1 - i) (l.getD i 0):=by
 refine Oh (by simp[Eo]) fun j hj=>?_;rw[Eo]at hj;rw[IP hj,GW _ _ _ _ _ (by rw[List.length_set,Eo];omega),GW _ _ _ _ _ (by rw[Eo];omega),IP hj];by_cases e1:j=l.length - 1 - i
 ·rw[if_pos e1,if_pos (by omega),show l.length - 1 - j=i by omega]
 ·rw[if_neg e1];by_cases e2:j=i
  ·rw[if_pos e2,if_pos (by omega),e2]
  ·rw[if_neg e2];by_cases e3:j<i∨l.length≤j+i
   ·rw[if_pos e3,if_pos (by omega)]
   ·rw[if_neg e3,if_neg (by omega)]
theorem Yn{l:List Int}{i:Nat}(h:¬i+1<l.length - i):OY l i=l.reverse:=by
 refine Oh (by simp[Eo]) fun j hj=>?_;rw[Eo]at hj;have e:l.reverse.getD j 0=l.getD (l.length - 1 - j) 0:=by
  rw[AM,List.getElem?_reverse hj,AM]
 rw[IP hj,e];by_cases e3:j<i∨l.length≤j+i
 ·rw[if_pos e3]
 ·rw[if_neg e3,show l.length - 1 - j=j by omega]
theorem IA(v:Value)(l:List Int)(base:Nat)(w:World)(h:w.ownsRow base 3 1 v l.length (l.map (Value.int .i64)))(hl:l.length≤1000000):
 Calls Tryz.prog 46 #[v] w fun e w'=>e=.returned v∧w'.ownsRow base 3 1 v l.length (l.reverse.map (Value.int .i64))∧Bn (fun q=>v.ownBlock=some q) w w':=by
 obtain⟨va,vc,rfl⟩:=CQ h;have R0:Hid (w.ownsRow base 3 1 (.slice va l.length vc) l.length ((OY l 0).map (Value.int .i64))):=Aa (by rw[Xa];exact h);have RE:=Aa (fun i (hi:¬i+1<l.length - i)=>Yn hi);have RS:=Aa (fun i (hi:i<l.length - 1 - i)=>VQ hi);have RG:=Aa (fun i j (hj:j<l.length)=>IP (i:=i) hj);have RL:=Aa (Eo l);generalize OY l=RK at*;generalize l.reverse=LR at*;obtain⟨n,hn⟩:∃n,l.length=n:=⟨_,rfl⟩;rw[hn]at R0 RE RS RG RL hl h ⊢;clear hn h;go_enter Tryz.func46,Tryz.ntmps46;go_wp2_with fail
 go_loopg [3,4] n (fun fu iv kv wr=>∃i:Nat,i+fu=n∧iv=.int .i64 i∧kv=.int .i64 ((n:Int) - 1 - (i:Int))∧Hid (wr.ownsRow base 3 1 (.slice va n vc) n ((RK i).map (Value.int .i64)))∧Hid (Bn (fun q=>(Value.slice va n vc).ownBlock=some q) w wr))
 case atStart=>exact⟨0,by omega,rfl,by simp,R0,Aa (Bn.refl _ _)⟩
 case round=>
  clear R0;obtain⟨i,hi,rfl,rfl,HO,HF⟩:=hrel;by_cases hlt:i+1<n - i
  ·obtain⟨k,hk⟩:∃k:Nat,k=n - 1 - i:=⟨_,rfl⟩;have e0:((n:Int) - 1 - (i:Int))=(k:Int):=by omega
   have hin:i<n:=by omega
   have hkn:k<n:=by omega
   have z1:(i:Int)<(k:Int):=by omega
   have z2:(i:Int)<(n:Int):=by omega
   have z3:(k:Int)<(n:Int):=by omega
   rw[e0];obtain⟨b1,-,⟨c1,e1⟩,d1⟩:=BL HO.out hin;simp only[Value.slice.injEq]at e1;obtain⟨rfl,-,rfl⟩:=e1;obtain⟨b2,e2,-,d2⟩:=BL HO.out hkn;obtain rfl:b1=b2:=by simpa[Value.ownBlock]using e2
   have ev:∀j,j<n→((RK i).map (Value.int .i64)).getD j undef=.int .i64 ((RK i).getD j 0):=fun j hj=>by
    have:=RL.out i;simp[AM,show j<(RK i).length by omega]
   rw[ev i hin,RG.out i i hin,if_neg (by omega)]at d1;rw[ev k hkn,RG.out i k hkn,if_neg (by omega)]at d2;have st:=RS.out i (by omega);rw[← hk]at st;obtain⟨s1,f1⟩:=Qs HO.out hin (.int .i64 (l.getD k 0));obtain⟨s2,f2⟩:=Qs s1 hkn (.int .i64 (l.getD i 0));rw[← List.map_set,← List.map_set,← st]at s2;have H2:=Aa s2;have HF2:=Aa ((HF.out.setCell (p:=⟨b1,i,none⟩) (fun _=>rfl) (.int .i64 (l.getD k 0))).setCell (p:=⟨b1,k,none⟩) (fun _=>rfl) (.int .i64 (l.getD i 0)));have hik:i≠k:=by omega
   have HK:=Aa hk;clear s1 s2 st ev e2 hk;generalize l.getD k 0=xk at*;generalize l.getD i 0=xi at*;have q4:wr.frozen? ⟨b1,k,none⟩=false:=(Qs HO.out hkn (.int .i64 0)).2;have g3:(wr.setCell ⟨b1,i,none⟩ (.int .i64 xk)).cell? ⟨b1,k,none⟩=some (.int .i64 xk):=by
    rw[World.cell?_setCell_other _ _ _ _ (fun e=>hik (Addr.mk.inj e).2.1)];exact d2
   clear hik;go_wp2_with fail
   go_region
   go_wp2_with fail
   go_roundg (n - (i+1))
   case measure=>omega
   case rel=>exact⟨i+1,by omega,by simp,by have:=HK.out;congr 1;omega,by first | exact H2 | exact Aa H2.out.drew,by first | exact HF2 | exact Aa HF2.out.drew⟩
  ·have E:=Aa (RE.out i hlt);have z1:¬(i:Int)<(n:Int) - 1 - (i:Int):=by omega
   go_wp2_with fail
   go_ret;exact⟨rfl,by rw[← E.out];exact HO.out,HF.out⟩
abbrev FS:Type:=List (Int×List Int)
def OQ(inl:List Bool)(p:List Int)(F:FS)(e:Ed):FS:=if Cz inl e.2.2=true∧∀y∈F,y.1≠e.2.2 then F++[(e.2.2,p++[e.2.1])] else F
def EY(inl:List Bool)(el:List Ed)(p:List Int)(F:FS)(k:Nat):FS:=(el.take k).foldl (OQ inl p) F
theorem Hm{inl:List Bool}{el:List Ed}{p:List Int}{F:FS}{k:Nat}(h:k<el.length):EY inl el p F (k+1)=OQ inl p (EY inl el p F k) (el.getD k (0,0,0)):=by
 unfold EY;rw[List.take_add_one,Bf h,List.foldl_append];simp[AM,h]
def OZ(g:Gr)(inl:List Bool)(F:FS)(i:Nat):FS:=EY inl (AR g (F.getD i (0,[])).1) (F.getD i (0,[])).2 F (AR g (F.getD i (0,[])).1).length
def ZE(g:Gr)(inl:List Bool)(tgt:Int):Nat→FS→Nat→Option (List Int)
 | 0,_,_=>none
 | n+1,F,i=>if i<F.length then(if(F.getD i (0,[])).1=tgt then some (F.getD i (0,[])).2 else ZE g inl tgt n (OZ g inl F i) (i+1)) else none
def EB(g:Gr)(inl:List Bool)(src tgt:Int):Option (List Int):=ZE g inl tgt (inl.length+1) [(src,[])] 0
structure BI(g:Gr)(inl:List Bool)(src:Int)(F:FS):Prop where
 nd:(F.map (fun y=>y.1)).Nodup
 inn:∀y∈F,Cz inl y.1=true∧0≤y.1
 pos:0<F.length
 hd:F.getD 0 (0,[])=(src,[])
 par:∀j,0<j→j<F.length→∃i a,i<j∧(F.getD j (0,[])).2=(F.getD i (0,[])).2++[a]∧((F.getD i (0,[])).1,a,(F.getD j (0,[])).1)∈Av g
theorem DH{F:FS}{x:Int×List Int}{j:Nat}(h:j≤F.length):(F++[x]).getD j (0,[])=if j<F.length then F.getD j (0,[]) else x:=Ei _ _ _ _ h
theorem BI.start{g:Gr}{inl:List Bool}{src:Int}(h:Cz inl src=true)(h0:0≤src):BI g inl src [(src,[])]:=
 ⟨by simp,fun y hy=>by obtain rfl:=Ds.1 hy;exact⟨h,h0⟩,by simp,rfl,fun j h1 h2=>by simp at h2;omega⟩
theorem BI.add{g:Gr}{inl:List Bool}{src:Int}{F:FS}(h:BI g inl src F){i:Nat}(hi:i<F.length){e:Ed}(he:e∈AR g (F.getD i (0,[])).1):BI g inl src (OQ inl (F.getD i (0,[])).2 F e):=by
 unfold OQ;split
 ·rename_i hc;obtain⟨h1,h2⟩:=hc;have hr:=Hq he;refine⟨?_,fun y hy=>?_,by simp,?_,fun j hj hjl=>?_⟩
  ·rw[Ec,List.nodup_append];refine⟨h.nd,by simp,fun a ha b hb=>?_⟩;obtain⟨y,hy,rfl⟩:=DJ.1 ha;obtain rfl:=Ds.1 hb;exact h2 y hy
  ·rcases CJ.1 hy with hy | hy
   ·exact h.inn y hy
   ·obtain rfl:=Ds.1 hy;exact⟨h1,hr.1⟩
  ·rw[DH (Nat.zero_le _),if_pos h.pos];exact h.hd
  ·rw[Bs,List.length_singleton]at hjl;rw[DH (by omega)];by_cases e1:j<F.length
   ·rw[if_pos e1];obtain⟨i',a,q1,q2,q3⟩:=h.par j hj e1;refine⟨i',a,q1,?_,?_⟩
    ·rw[DH (by omega),if_pos (by omega)];exact q2
    ·rw[DH (by omega),if_pos (by omega)];exact q3
   ·rw[if_neg e1];refine⟨i,e.2.1,by omega,?_,?_⟩
    ·rw[DH (by omega),if_pos hi]
    ·rw[DH (by omega),if_pos hi];have:=(BZ.1 he).1;rw[← hr.2.2.2.1];exact this
 ·exact h
theorem cE{inl:List Bool}{p:List Int}{F:FS}{e:Ed}:F.length≤(OQ inl p F e).length∧∀j,j<F.length→(OQ inl p F e).getD j (0,[])=F.getD j (0,[]):=by
 unfold OQ;split
 ·exact⟨by simp,fun j hj=>by rw[DH (by omega),if_pos hj]⟩
 ·exact⟨AQ _,fun _ _=>rfl⟩
theorem aI{inl:List Bool}{p:List Int}{F:FS}{e:Ed}(h:Cz inl e.2.2=true):∃y∈OQ inl p F e,y.1=e.2.2:=by
 unfold OQ;split
 ·exact⟨_,List.mem_append_right _ (Ds.2 rfl),rfl⟩
 ·rename_i hc;refine Classical.byContradiction fun hn=>hc ⟨h,fun y hy e1=>hn ⟨y,hy,e1⟩⟩
theorem Gi{inl:List Bool}{el:List Ed}{p:List Int}{F:FS}:∀k,k≤el.length→F.length≤(EY inl el p F k).length∧∀j,j<F.length→(EY inl el p F k).getD j (0,[])=F.getD j (0,[])
 | 0,_=>⟨AQ _,fun _ _=>rfl⟩
 | k+1,hk=>by
  obtain⟨h1,h2⟩:=Gi (inl:=inl) (el:=el) (p:=p) (F:=F) k (by omega);obtain⟨h3,h4⟩:=cE (inl:=inl) (p:=p) (F:=EY inl el p F k) (e:=el.getD k (0,0,0));rw[Hm (show k<el.length by omega)];exact⟨CP h1 h3,fun j hj=>by rw[h4 j (Nat.lt_of_lt_of_le hj h1),h2 j hj]⟩
theorem Up{el:List Ed}{k:Nat}(h:k<el.length):el.getD k (0,0,0)∈el:=by simp[AM,h]
theorem BI.vis{g:Gr}{inl:List Bool}{src:Int}{F:FS}(h:BI g inl src F){i:Nat}(hi:i<F.length):∀k,k≤(AR g (F.getD i (0,[])).1).length→BI g inl src (EY inl (AR g (F.getD i (0,[])).1) (F.getD i (0,[])).2 F k)
 | 0,_=>h
 | k+1,hk=>by
  have ih:=BI.vis h hi k (by omega);obtain⟨h1,h2⟩:=Gi (inl:=inl) (p:=(F.getD i (0,[])).2) (F:=F) k (show k≤(AR g (F.getD i (0,[])).1).length by omega);rw[Hm (by omega)];have:=ih.add (i:=i) (by omega) (e:=(AR g (F.getD i (0,[])).1).getD k (0,0,0)) (by rw[h2 i hi];exact Up (by omega));rw[h2 i hi]at this;exact this
theorem UV{inl:List Bool}{el:List Ed}{p:List Int}{F:FS}:∀k,k≤el.length→∀j,j<k→Cz inl (el.getD j (0,0,0)).2.2=true→∃y∈EY inl el p F k,y.1=(el.getD j (0,0,0)).2.2
 | 0,_,j,hj,_=>by omega
 | k+1,hk,j,hj,hin=>by
  rw[Hm (by omega)];by_cases e:j=k
  ·subst e;exact aI hin
  ·obtain⟨y,hy,e1⟩:=UV (inl:=inl) (el:=el) (p:=p) (F:=F) k (by omega) j (by omega) hin;refine⟨y,?_,e1⟩;unfold OQ;split
   ·exact List.mem_append_left _ hy
   ·exact hy
theorem BI.len{g:Gr}{inl:List Bool}{src:Int}{F:FS}(h:BI g inl src F):F.length≤inl.length:=by
 have:=FU (a:=F.map (fun y=>y.1)) (b:=(List.range inl.length).map (fun k:Nat=>(k:Int))) h.nd (fun x hx=>by
  obtain⟨y,hy,rfl⟩:=DJ.1 hx;obtain⟨h1,h2⟩:=h.inn y hy;unfold Cz at h1;rw[Ci,EU]at h1;exact DJ.2 ⟨y.1.toNat,Cg.2 (by omega),by omega⟩)
 simpa using this
structure EG(w:World)(base:Nat)(v:Value)(xs:List Int)(n:Nat):Prop where
 len:xs.length=n
 ex:∃g off cap cur,v=.slice (some ⟨g,off,none⟩) n cap∧base≤g∧w.heap[g]?=some (.cells cur 3 (0,0))∧n≤cap∧cap≤maxLen∧off+cap≤cur.size∧(cur.toList.drop off).take n=xs.map (Value.int .i64)
theorem EG.lt{w:World}{base:Nat}{v:Value}{xs:List Int}{n:Nat}(h:EG w base v xs n):∀k,v.ownBlock=some k→base≤k∧k<w.heap.size:=by
 obtain⟨g,off,cap,cur,rfl,hb,hg,-⟩:=h.ex;intro k hk;obtain rfl:g=k:=by simpa[Value.ownBlock]using hk
 exact⟨hb,(BO.1 hg).1⟩
theorem EG.frm{w w':World}{base:Nat}{v:Value}{xs:List Int}{n:Nat}(h:EG w base v xs n){F:Nat→Prop}(hf:Bn F w w')(hno:∀k,v.ownBlock=some k→¬F k):EG w' base v xs n:=by
 obtain⟨hl,g,off,cap,cur,rfl,hb,hg,r⟩:=h;exact⟨hl,g,off,cap,cur,rfl,hb,hf.heap hg (hno g rfl),r⟩
theorem EG.more{w w':World}{base:Nat}{v:Value}{xs:List Int}{n:Nat}(h:EG w base v xs n)(hb:Below w.heap.size w w'):EG w' base v xs n:=h.frm (F:=fun _=>False) (Df hb _) (fun _ _=>id)
theorem EG.cell{w:World}{base:Nat}{v:Value}{xs:List Int}{n:Nat}(h:EG w base v xs n):∃g off cap,v=.slice (some ⟨g,off,none⟩) n cap∧n≤cap∧cap≤maxLen∧∀j,j<n→w.cell? ⟨g,off+j,none⟩=some (.int .i64 (xs.getD j 0)):=by
 obtain⟨hl,g,off,cap,cur,rfl,hb,hg,hn,hc,hs,ht⟩:=h;refine⟨g,off,cap,rfl,hn,hc,fun j hj=>Ab hg _ _ ?_⟩;have e:(xs.map (Value.int .i64))[j]?=some (.int .i64 (xs.getD j 0)):=by simp[AM,show j<xs.length by omega]
 rw[← ht,List.getElem?_take,if_pos hj,List.getElem?_drop]at e;simpa using e
theorem EG.one{w:World}{g:Nat}{x:Int}(h:w.heap[g]?=some (.cells #[.int .i64 x] 3 (0,0))){base:Nat}(hb:base≤g):EG w base (.slice (some ⟨g,0,none⟩) 1 1) [x] 1:=
 ⟨rfl,g,0,1,_,rfl,hb,h,AQ _,by decide,by simp,by simp⟩
theorem EG.pop{w:World}{base g off cap n:Nat}{x:Int}{xs:List Int}(h:EG w base (.slice (some ⟨g,off,none⟩) (n+1) cap) (x::xs) (n+1)):EG w base (.slice (some ⟨g,off+1,none⟩) n (cap - 1)) xs n:=by
 obtain⟨hl,g',off',cap',cur,e,hb,hg,hn,hc,hs,ht⟩:=h;simp only[Value.slice.injEq,Option.some.injEq,Addr.mk.injEq,and_true,true_and]at e;obtain⟨⟨rfl,rfl⟩,rfl⟩:=e;refine⟨by simpa using hl,g,off+1,cap - 1,cur,rfl,hb,hg,by omega,by omega,by omega,?_⟩;have e:((cur.toList.drop off).take (n+1)).drop 1=((x::xs).map (Value.int .i64)).drop 1:=by rw[ht]
 rw[List.drop_take,List.drop_drop]at e;simpa using e
theorem EG.pop1{w:World}{base g off:Nat}{x:Int}{xs:List Int}{n:Nat}(h:EG w base (.slice (some ⟨g,off,none⟩) (n+1) 1) (x::xs) (n+1)):EG w base (.slice (some ⟨g,off,none⟩) n 0) xs n:=by
 obtain⟨hl,g',off',cap',cur,e,hb,hg,hn,hc,hs,ht⟩:=h;simp only[Value.slice.injEq,Option.some.injEq,Addr.mk.injEq,and_true,true_and]at e;obtain⟨⟨rfl,rfl⟩,rfl⟩:=e;obtain rfl:n=0:=by omega
 have hx:xs=[]:=List.eq_nil_of_length_eq_zero (by simpa using hl);subst hx;exact⟨rfl,g,off,0,cur,rfl,hb,hg,AQ _,by omega,by omega,by simp⟩
theorem JB {P:Program} (w:World) (t ty e:TypeId) (i:TypeInfo) (ht:P.underlying t=some (.slice e)) (hi:P.info? e=some i)
 (g off sLen sCap:Nat) (cur:Array Value) (hg:w.heap[g]?=some (.cells cur e (0,0)))
 (a:Addr) (m c:Nat) (news:List Value) (hl:news.length=m*i.size) (hnews:∀j u,news[j]?=some u→w.cell? (a.add j)=some u) (h1:∀u∈news,u.oneCell'=true)
 (hroom:sLen+m≤sCap) (hfit:off+sLen*i.size+news.length≤cur.size):
 (Builtin.append_ #[t,t] ty #[.slice (some ⟨g,off,none⟩) sLen sCap,.slice (some a) m c]).run P w=
  .ok (.slice (some ⟨g,off,none⟩) (sLen+m) sCap) (w.setRow g (cur.toList.take (off+sLen*i.size)++news++cur.toList.drop (off+sLen*i.size+news.length)).toArray):=by
 have hf:=run_firstCells_some (P:=P) w i.size m a m c news hl hnews;have hst:=run_storeCells_at P g (off+sLen*i.size) e news 0 cur w hg (by simpa using hfit) h1;simp only[Nat.add_zero]at hst;simp[Builtin.append_,run_underlying ht,sizeOf,typeInfo,hi,Builtin.lenOf,hroom,hf,Go.WideShapes.add_plain,hst]
theorem Ze{w:World}{base:Nat}{v:Value}{xs:List Int}{n:Nat}(h:EG w base v xs n)(ty:TypeId){b c:Nat}{y:Int}(hb:w.heap[b]?=some (.cells #[.int .i64 y] 3 (0,0)))(hn:n≤1000000)(hbase:base≤w.heap.size):
 ∃g off cap w',(Builtin.append_ #[22,22] ty #[v,.slice (some ⟨b,0,none⟩) 1 c]).run Tryz.prog w=.ok (.slice (some ⟨g,off,none⟩) (n+1) cap) w'∧EG w' base (.slice (some ⟨g,off,none⟩) (n+1) cap) (xs++[y]) (n+1)∧w.grownBy w' v.ownBlock:=by
 obtain⟨i0,hi0,hz0,hz1,hz2⟩:=CE Tryz.info3;obtain⟨hl,g,off,cap,cur,rfl,hbg,hg,hnc,hcm,hcs,ht⟩:=h;have hnews:∀j u,([Value.int .i64 y]:List Value)[j]?=some u→w.cell? ((⟨b,0,none⟩:Addr).add j)=some u:=World.news_of_block (cs:=#[.int .i64 y]) hb;have hx1:(xs++[y]).length=n+1:=by simp[hl]
 by_cases hroom:n+1≤cap
 ·have hr:=JB (P:=Tryz.prog) w 22 ty 3 i0 Tryz.underlying22 hi0 g off n cap cur hg ⟨b,0,none⟩ 1 c [.int .i64 y] (by simp[hz1]) hnews (by simp[Value.oneCell']) hroom (by simp[hz1];omega);refine⟨g,off,cap,_,hr,⟨hx1,g,off,cap,_,rfl,hbg,setRow_heap w g cur _ 3 _ hg,hroom,hcm,?_,?_⟩,⟨rfl,rfl,rfl,by simp,fun k _ hk=>setRow_other w g k _ (fun e=>hk (by simp[Value.ownBlock,e]))⟩⟩
  ·simp only[List.size_toArray,Bs,List.length_take,List.length_drop,Array.length_toList,hz1,List.length_singleton];omega
  ·have hcl:off+cap≤cur.toList.length:=by simpa using hcs
   have hAl:(cur.toList.take (off+n*i0.size)).length=off+n:=by rw[List.length_take,hz1];omega
   have eA:(cur.toList.take (off+n*i0.size)).drop off=xs.map (Value.int .i64):=by
    rw[List.drop_take,hz1,show off+n*1 - off=n by omega,ht]
   show((cur.toList.take (off+n*i0.size)++[Value.int .i64 y]++cur.toList.drop (off+n*i0.size+[Value.int IntKind.i64 y].length)).drop off).take (n+1)=_;rw[List.append_assoc,List.drop_append_of_le_length (by omega),eA,← List.append_assoc,Ec];exact List.take_left' (by simp[hl])
 ·have holds:∀j u,(xs.map (Value.int .i64))[j]?=some u→w.cell? ((⟨g,off,none⟩:Addr).add j)=some u:=fun j u hu=>by
   rw[Go.WideShapes.add_plain];refine Ab hg _ _ ?_;rw[← ht,List.getElem?_take]at hu;split at hu
   ·rw[List.getElem?_drop]at hu;simpa using hu
   ·cases hu
  have hr:=run_append_grow (P:=Tryz.prog) w 22 ty 3 i0 (.int .i64 0) Tryz.underlying22 hi0 hz0 ⟨g,off,none⟩ n cap (xs.map (Value.int .i64)) (by simp[hl,hz1]) holds ⟨b,0,none⟩ 1 c [.int .i64 y] (by simp[hz1]) hnews (by omega) (by omega) (growslice_fits (by omega) (by rw[hz2];omega));have hge:=grownCap_ge w (n+1) cap 3;have hcm2:grownCap w (n+1) cap 3≤maxLen:=grownCap_le_maxLen w (n+1) cap 3 (by unfold maxLen;omega);refine⟨w.heap.size,0,_,_,hr,⟨hx1,w.heap.size,0,_,_,rfl,hbase,Ar w.drew _,hge,hcm2,?_,?_⟩,⟨rfl,rfl,rfl,by simp,fun k hk _=>heap_alloc_old w.drew _ hk⟩⟩
  ·have hzc:(Value.int IntKind.i64 0).cells.size=1:=rfl;simp only[Array.size_append,List.size_toArray,size_zeroCells,hzc,Fi,hl,List.length_singleton];omega
  ·show(((xs.map (Value.int .i64)).toArray++[Value.int IntKind.i64 y].toArray++Builtin.zeroCells (Value.int IntKind.i64 0).cells (grownCap w (n+1) cap 3 - (n+1))).toList.drop 0).take (n+1)=_;rw[List.drop_zero,Array.toList_append,Array.toList_append,Ec];exact List.take_left' (by simp[hl])
section
variable {ops:Array Oper} {rest:List Oper} {o:Oper} {a:Act} {Q:Exit→Act→World→Prop}
theorem US {w:World} {base:Nat} {v:Value} {xs:List Int} {n:Nat} (h:EG w base v xs n) (hg:o.guard=none) (s x:Operand) (hop:o.op=.call {callee:=.builtin .append,args:=#[s,x],argTypes:=#[22,22]}) (hs:a.eval s=v) {b c:Nat} {y:Int}
 (hx:a.eval x=.slice (some ⟨b,0,none⟩) 1 c) (hb:w.heap[b]?=some (.cells #[.int .i64 y] 3 (0,0))) (hn:n≤1000000) (hbase:base≤w.heap.size)
 (hK:∀g off cap w',EG w' base (.slice (some ⟨g,off,none⟩) (n+1) cap) (xs++[y]) (n+1)→w.grownBy w' v.ownBlock→wpList Tryz.prog ops Q rest (a.put o.dst (.slice (some ⟨g,off,none⟩) (n+1) cap)) w'):wpList Tryz.prog ops Q (o::rest) a w:=by
 refine wpList_plain hg fun K' hK'=>?_;obtain⟨g,off,cap,w',hr,h2,h3⟩:=Ze h o.type hb hn hbase (c:=c);unfold Oper.wp execOp;simp only[hop,resolve,invoke,builtin,Sem.run_bind,Sem.run_pure,Result.andThen_ok,List.map_toArray,List.map_cons,List.map_nil,hs,hx,hr];exact hK' _ _ (hK g off cap w' h2 h3)
end
structure MO(F:FS)(f:Int→Option (Int×Int)):Prop where
 has:∀x,(f x).isSome=true↔∃y∈F,y.1=x
 way:∀j,j<F.length→(f (F.getD j (0,[])).1=some (-1,-1)∧(F.getD j (0,[])).2=[])∨∃i a,i<j∧f (F.getD j (0,[])).1=some ((F.getD i (0,[])).1,a)∧(F.getD j (0,[])).2=(F.getD i (0,[])).2++[a]
theorem Lp{F:FS}{j:Nat}(h:j<F.length):F.getD j (0,[])∈F:=by simp[AM,h]
theorem MO.start(src:Int):MO [(src,[])] (fun x=>if x=src then some (-1,-1) else none):=by
 refine⟨fun x=>?_,fun j hj=>?_⟩
 ·show(if x=src then some ((-1:Int),(-1:Int)) else none).isSome=true↔_;by_cases e:x=src
  ·rw[if_pos e];exact⟨fun _=>⟨_,Ds.2 rfl,e.symm⟩,fun _=>rfl⟩
  ·rw[if_neg e];refine⟨fun h=>(by cases h),fun⟨y,hy,h⟩=>?_⟩;obtain rfl:=Ds.1 hy;exact absurd h.symm e
 ·obtain rfl:j=0:=by simp at hj;omega
  exact .inl ⟨if_pos rfl,rfl⟩
theorem MO.add{F:FS}{f:Int→Option (Int×Int)}(h:MO F f){i:Nat}(hi:i<F.length){e:Ed}(hn:∀y∈F,y.1≠e.2.2):
 MO (F++[(e.2.2,(F.getD i (0,[])).2++[e.2.1])]) (fun x=>if x=e.2.2 then some ((F.getD i (0,[])).1,e.2.1) else f x):=by
 refine⟨fun x=>?_,fun j hj=>?_⟩
 ·show(if x=e.2.2 then some ((F.getD i (0,[])).1,e.2.1) else f x).isSome=true↔_;by_cases e1:x=e.2.2
  ·rw[if_pos e1];exact⟨fun _=>⟨_,List.mem_append_right _ (Ds.2 rfl),e1.symm⟩,fun _=>rfl⟩
  ·rw[if_neg e1,h.has];refine⟨fun⟨y,hy,q⟩=>⟨y,List.mem_append_left _ hy,q⟩,fun⟨y,hy,q⟩=>?_⟩;rcases CJ.1 hy with hy | hy
   ·exact⟨y,hy,q⟩
   ·obtain rfl:=Ds.1 hy;exact absurd q.symm e1
 ·rw[Bs,List.length_singleton]at hj;rw[DH (by omega)];by_cases e1:j<F.length
  ·rw[if_pos e1];rcases h.way j e1 with q | ⟨i',a,q1,q2,q3⟩
   ·exact .inl ⟨(if_neg (hn _ (Lp e1))).trans q.1,q.2⟩
   ·refine .inr ⟨i',a,q1,?_,?_⟩
    ·rw[DH (by omega),if_pos (show i'<F.length by omega)];exact(if_neg (hn _ (Lp e1))).trans q2
    ·rw[DH (by omega),if_pos (show i'<F.length by omega)];exact q3
  ·rw[if_neg e1];refine .inr ⟨i,e.2.1,by omega,?_,?_⟩
   ·rw[DH (by omega),if_pos hi];exact if_pos rfl
   ·rw[DH (by omega),if_pos hi]
theorem Yb{w:World}{base:Nat}{v:Value}{n:Nat}{xs:List Value}(ho:w.ownsRow base 3 1 v n xs){k:Nat}(hk:v.ownBlock=some k):∃cur,w.heap[k]?=some (.cells cur 3 (0,0)):=by
 rcases ho.2 with⟨rfl,-⟩ | ⟨g',cap',cur,rfl,-,hg,-⟩
 ·cases hk
 ·obtain rfl:g'=k:=by simpa[Value.ownBlock]using hk
  exact⟨cur,hg⟩
theorem Wh{w w4:World}{base:Nat}{v:Value}{n:Nat}{xs:List Value}(ho:w.ownsRow base 3 1 v n xs){o:Obj}(hg:(w.alloc o).grownBy w4 v.ownBlock){pb:Nat}{c:Array Value}{t:TypeId}(hx:w.heap[pb]?=some (.cells c t (0,0)))(ht:t≠3):w4.heap[pb]?=some (.cells c t (0,0)):=by
 have hlt:=(BO.1 hx).1;rw[hg.block pb (by simp;omega) (fun e=>by
  obtain⟨cur,h⟩:=Yb ho e.symm;rw[hx]at h;cases h;exact ht rfl)]
 exact Ah (Ae w o) hx
theorem VU{w w4:World}{base:Nat}{v:Value}{n:Nat}{xs:List Value}(ho:w.ownsRow base 3 1 v n xs){o:Obj}(hg:(w.alloc o).grownBy w4 v.ownBlock){b m:Nat}{f:Int→Option (Int×Int)}(hm:Eb w b m f):Eb w4 b m f:=
 (hm.more (Ae w o)).kept hg (fun e=>by
  obtain⟨cur,h⟩:=Yb ho e.symm;exact hm.ne h rfl)
def UZ(w:World)(l:List Int)(e:Ending)(w':World):Prop:=∃v,e=.returned v∧w'.ownsRow w.heap.size 3 1 v l.length (l.map (Value.int .i64))∧Below w.heap.size w w'
theorem Za(F:FS)(f:Int→Option (Int×Int))(b n t:Nat)(w:World)(hm:Eb w b n f)(hF:MO F f)(ht:t<F.length)(hin:∀y∈F,0≤y.1)(hwf:∀y∈F,(Lit.int .i64 y.1).wf=true)(hl:F.length≤1000000):
 Calls Tryz.prog 107 #[.map (some b),.int .i64 (F.getD t (0,[])).1] w (UZ w (F.getD t (0,[])).2):=by
 obtain⟨i0,hi0,hz0,hz1,hz2⟩:=CE Tryz.info3;have HM:=Aa hm;have HWY:=Aa (fun j (hj:j<F.length)=>hF.way j hj);have HIN:=Aa (fun j (hj:j<F.length)=>hin _ (Lp hj));have HWF:=Aa (fun j (hj:j<F.length)=>hwf _ (Lp hj));obtain⟨ND,hND⟩:∃f:Nat→Int,∀j,f j=(F.getD j (0,[])).1:=⟨fun j=>(F.getD j (0,[])).1,fun _=>rfl⟩;obtain⟨PA,hPA⟩:∃f:Nat→List Int,∀j,f j=(F.getD j (0,[])).2:=⟨fun j=>(F.getD j (0,[])).2,fun _=>rfl⟩;simp only[← hND,← hPA]at HWY HIN HWF ⊢;clear hND hPA hm hF hin hwf;obtain⟨N,hN⟩:∃N,F.length=N:=⟨_,rfl⟩;rw[hN]at HWY HIN HWF ht hl;clear hN;obtain⟨p0,hp0⟩:∃p:Int×Int,(f (ND t)).getD (0,0)=p:=⟨_,rfl⟩;have HP0:=Aa hp0;go_enter Tryz.func107,Tryz.ntmps107;go_wp2_with (at_lookup;refine Zj HM.out rfl rfl rfl rfl (HWF.out t ht) ?_;rw[hp0];unfold It)
 have M1:=Aa (HM.out.more (Ae w (.cells #[.int .i64 p0.1,.int .i64 p0.2] 146)));have X1:=Aa (Ar w (.cells #[.int .i64 p0.1,.int .i64 p0.2] 146));have B1:=Aa (Ae w (.cells #[.int .i64 p0.1,.int .i64 p0.2] 146));clear hp0;go_loopg [5,6] (t+1) (fun fu lv pv wr=>∃(j m pb:Nat) (l:List Int),j+1=fu∧j<N∧pv=.pointer (some ⟨pb,0,none⟩)∧l.length=m∧m+j≤t∧Hid (PA t=PA j++l.reverse)∧Hid (wr.heap[pb]?=some (.cells #[.int .i64 ((f (ND j)).getD (0,0)).1,.int .i64 ((f (ND j)).getD (0,0)).2] 146 (0,0)))∧
  Hid (w.heap.size≤pb)∧Hid (Eb wr b n f)∧Hid (Below w.heap.size w wr)∧Hid (wr.ownsRow w.heap.size 3 1 lv m (l.map (Value.int .i64))))
 case atStart=>exact⟨t,0,w.heap.size,[],rfl,ht,rfl,rfl,by omega,Aa (by simp),Aa (by rw[HP0.out];exact X1.out),Aa (AQ _),M1,B1,Aa (CO _ _ _ _)⟩
 case round=>
  clear M1 X1 B1 HP0 HM;obtain⟨j,m,pb,l,hfu,hjN,rfl,hlm,hmj,HPA,HX,HPB,HM,HB,HO⟩:=hrel;obtain⟨oa,oc,rfl⟩:=CQ HO.out;have HLM:=Aa hlm;clear hlm;rcases HWY.out j hjN with⟨q1,q2⟩ | ⟨i,a,q0,q1,q2⟩
  ·have hx:=HX.out;rw[q1]at hx;have c0:=Ab hx 0 _ rfl;have E:=Aa (show PA t=l.reverse by rw[HPA.out,q2];rfl);have HRV:=Aa (IA (.slice oa m oc) l w.heap.size wr (by rw[HLM.out];exact HO.out) (by rw[HLM.out];omega));clear hx q1 q2 hfu;go_wp2_with (go_at_call 46;refine HRV.out.mono ?_;rintro e w5 ⟨rfl,ho5,hf5⟩;have HO5:=Aa ho5;have HF5:=Aa (hf5.below (B:=w.heap.size) (fun k hk=>(HO.out.lt k hk).1) HB.out.size);clear ho5 hf5)
   go_ret;refine⟨_,rfl,by rw[E.out,List.length_reverse];exact HO5.out,HB.out.trans HF5.out⟩
  ·obtain⟨x,hxi⟩:∃z,ND i=z:=⟨_,rfl⟩;have HXI:=Aa hxi;rw[hxi]at q1;have hx:=HX.out;rw[q1]at hx;obtain⟨c0,c1⟩:=Wz hx;have hi0':=HIN.out i (by omega);have hwi:=HWF.out i (by omega);rw[hxi]at hi0' hwi;have z1:(x !=-1)=true:=by simp[bne];omega
   have HWI:=Aa hwi;have E:=Aa (show PA t=PA i++(l++[a]).reverse by rw[HPA.out,q2];simp);obtain⟨p1,hp1⟩:∃p:Int×Int,(f x).getD (0,0)=p:=⟨_,rfl⟩;have HP1:=Aa hp1;have HX2:=Aa hx;have hij:m+1+i≤t:=by omega
   have hiN:i<N:=by omega
   have hji:i+1<j+1:=by omega
   clear hx q1 q2 HPA hxi hwi;go_wp2_with (first
    | (at_builtin;refine wpList_append_lies (wr.alloc (.cells #[.int .i64 a] 3)) rfl (.tmp 17) (.tmp 20) 22 rfl w.heap.size 3 i0 (.int .i64 0) 1 8 Tryz.underlying22 hi0 hz0 hz1 hz2 rfl (by decide) (.slice oa m oc) m _ rfl (HO.out.alloc _) ⟨wr.heap.size,0,none⟩ 1 1 [.int .i64 a] rfl rfl (World.news_of_block (Ar _ _)) (by simp[Value.oneCell']) (by omega) (by unfold maxLen;omega) (by omega) (by have:=HB.out.size;simp;omega) (wr.heap.size+1) (by simp) ?_;intro g3 cap3 w4 hown3 hgr3 hor3 hlt3;have HO4:=Aa hown3;have HB4:=Aa (Below.own HB.out HO.out hgr3);have hx4:=Wh HO.out hgr3 HX2.out (by decide);obtain⟨e0,e1⟩:=Wz hx4;have HM4:=Aa (VU HO.out hgr3 HM.out);clear hgr3 hor3 hown3)
    | (at_lookup;refine Zj (HM4.out.more (Ae w4 (.cells #[.int .i64 x,.int .i64 a] 146))) rfl rfl rfl rfl HWI.out ?_;rw[hp1];unfold It))
   go_roundg (i+1)
   case measure=>omega
   case rel=>exact⟨i,m+1,w4.heap.size,l++[a],rfl,hiN,rfl,by rw[Bs,HLM.out];rfl,hij,E,Aa (by rw[HXI.out,HP1.out];exact Ar w4 _),Aa HB4.out.size,Aa (HM4.out.more (Ae w4 _)),Aa (HB4.out.trans ((Ae w4 _).mono HB4.out.size)),Aa (by rw[Ec];exact HO4.out.alloc _)⟩
theorem Wl (N:Nat) (hE:Enters Tryz.prog N)
 (hcl:∀(W:World) (lv:Nat) (l:List Ed) (x y z:Int) (w:World),lv<W.heap.size→QU W lv l w→l.length<1000000→
  Calls Tryz.prog N #[.agg #[.int .i64 x,.int .i64 y,.int .i64 z],.pointer (some ⟨lv,0,none⟩)] w fun e w'=>e=.returned (.tuple #[])∧QU W lv (l++[(x,y,z)]) w')
 {g:Gr} {v:Value} {w w2:World} {lv:Nat} (hg:Ao w v g) (hR:Rt g) (hb:Below w.heap.size w w2) (hlv:w.heap.size≤lv) (hl2:w2.heap[lv]?=some (.cells #[.slice none 0 0] 55 (0,0)))
 (a m:Nat) (b:Int) (hab:b=(a:Int)+(m:Int)) (ham:a+m<g.S.length):
 Calls Tryz.prog 104 #[v,.int .i64 (a:Nat),.int .i64 b,.func (.func N) #[] #[.pointer (some ⟨lv,0,none⟩)]] w2 fun e w'=>e=.returned (.tuple #[])∧
  ∃v',w'.heap[lv]?=some (.cells #[v'] 55 (0,0))∧w'.ownsRow w.heap.size 54 3 v' (Du g a m).length (AA (Du g a m))∧Below w.heap.size w w':=by
 have h4:=hg.sS;have h6:=hg.sT;obtain⟨sa,aa,ta,sc,ac,tc,rfl,-⟩:=hg.var;have hlt:lv<w2.heap.size:=(BO.1 hl2).1;have hbx:=Ae w2 (.cells #[.slice sa g.S.length sc,.slice aa g.A.length ac,.slice ta g.T.length tc] 32);have hBel:∀(F:Nat→Prop) w',(∀k,F k→w.heap.size≤k)→Bn F (w2.alloc (.cells #[.slice sa g.S.length sc,.slice aa g.A.length ac,.slice ta g.T.length tc] 32)) w'→Below w.heap.size w w':=fun F w' hF hf=>
  (hb.trans (hbx.mono hb.size)).trans (hf.below hF (by have:=hb.size;simp;omega))
 refine(QD hR h4 h6 N hE _ a m b hab ham (fun pre w'=>QU (w2.alloc (.cells #[.slice sa g.S.length sc,.slice aa g.A.length ac,.slice ta g.T.length tc] 32)) lv pre w') ?_ ?_ ?_ ?_).mono ?_
 ·intro pre w' h;refine QO hg (hBel _ w' (fun k hk=>by subst hk;exact hlv) h.frm) ?_;exact h.frm.heap (Ar w2 _) (by show w2.heap.size≠lv;omega)
 ·exact⟨Bn.refl _ _,.slice none 0 0,Ah hbx hl2,⟨rfl,.inl ⟨rfl,rfl⟩⟩⟩
 ·exact fun pre w' h=>h.drew
 ·intro pre i k w' h _ _ _ _ hp;have e:#[Value.agg #[.int .i64 (i:Nat),.int .i64 (g.A.getD k 0),.int .i64 (g.T.getD k 0)]]++#[Value.pointer (some ⟨lv,0,none⟩)]=#[Value.agg #[.int .i64 (i:Nat),.int .i64 (g.A.getD k 0),.int .i64 (g.T.getD k 0)],Value.pointer (some ⟨lv,0,none⟩)]:=by simp
  rw[e];exact hcl _ lv pre _ _ _ w' (by simp;omega) h (by omega)
 ·rintro e w' ⟨rfl,h⟩;obtain⟨hf,v',h1,h2⟩:=h;exact⟨rfl,v',h1,Gk h2 (by have:=hb.size;simp;omega),hBel _ w' (fun k hk=>by subst hk;exact hlv) hf⟩
theorem aZ(v:Value)(g:Gr)(i:Int)(w:World)(h:Ao w v g):Calls Tryz.prog 83 #[v,.int .i64 i] w (IR w (AR g i)):=by
 have h4:=h.sS;have hE:Enters Tryz.prog 105:=enters_of Tryz.func105 (by kernel_rfl) rfl;obtain⟨sa,aa,ta,sc,ac,tc,rfl,-⟩:=h.var;have hb:=Ae w (.cells #[.slice sa g.S.length sc,.slice aa g.A.length ac,.slice ta g.T.length tc] 32);have HN:=Aa (Hb _ g _ (h.below hb));by_cases h0:i<0
 ·have e:AR g i=[]:=by unfold AR;rw[if_neg (by omega)]
  rw[e];have HB:=Aa hb;clear h hE hb;go_enter Tryz.func83,Tryz.ntmps83;go_wp2_with fail
  go_ret;exact⟨_,rfl,CO _ _ _ _,HB.out⟩
 ·by_cases h1:i<(Ad g:Int)
  ·have hR:Rt g:=by
    cases hh:Bj g
    ·rw[Cp hh]at h1;omega
    ·exact(Aq g).1 hh
   have hn:=Ap hR;obtain⟨k,rfl⟩:∃k:Nat,i=(k:Int):=⟨i.toNat,by omega⟩;have e:AR g k=Du g k 1:=by unfold AR;rw[if_pos ⟨(Aq g).2 hR,by omega,by omega⟩,QY];simp
   rw[e];clear e;have HB:=Aa hb;have HH:=Aa h;have HR:=Aa hR;have HE:=Aa hE;have hk:k+1<g.S.length:=by omega
   clear h hE hb hR hn;go_enter Tryz.func83,Tryz.ntmps83;go_wp2_with (first
    | (go_at_call 97;refine HN.out.mono ?_;rintro e w1 ⟨rfl,hb1⟩;have d0:=Af (Ae w1 (.cells #[.slice none 0 0] 55)) (Af hb1 (Ab (Ar w _) 0 _ rfl));have d1:=Af (Ae w1 (.cells #[.slice none 0 0] 55)) (Af hb1 (Ab (Ar w _) 1 _ rfl));have d2:=Af (Ae w1 (.cells #[.slice none 0 0] 55)) (Af hb1 (Ab (Ar w _) 2 _ rfl));have d3:=Af hb1 (Ab (Ar w _) 0 _ rfl);have d4:=Af hb1 (Ab (Ar w _) 1 _ rfl);have d5:=Af hb1 (Ab (Ar w _) 2 _ rfl);have hs1:=hb1.size;have HB1:=Aa (HB.out.trans (hb1.mono HB.out.size));clear hb1)
    | (go_at_call 104;refine(Wl 105 HE.out Sb HH.out HR.out (HB1.out.trans ((Ae w1 (.cells #[.slice none 0 0] 55)).mono HB1.out.size)) HB1.out.size (Ar w1 _) k 1 ((k:Int)+1) rfl hk).mono ?_;rintro e w2 ⟨rfl,v',q1,q2,q3⟩;have c2:=Ab q1 0 _ rfl;have Q:=Aa (And.intro q2 q3);clear q1 q2 q3))
   go_ret;exact⟨_,rfl,Q.out⟩
  ·have e:AR g i=[]:=by
    unfold AR;rw[if_neg];rintro⟨e1,e2,e3⟩;rw[Ap ((Aq g).1 e1)]at h1;omega
   rw[e];have HB:=Aa hb;clear h hE hb e;go_enter Tryz.func83,Tryz.ntmps83;go_wp2_with (first
    | (go_at_call 97;refine HN.out.mono ?_;rintro e w1 ⟨rfl,hb1⟩;have HB1:=Aa (HB.out.trans (hb1.mono HB.out.size));clear hb1))
   go_ret;exact⟨_,rfl,CO _ _ _ _,HB1.out⟩
end Go.Proofs.YtlhpjfnfemebdaaGreat
