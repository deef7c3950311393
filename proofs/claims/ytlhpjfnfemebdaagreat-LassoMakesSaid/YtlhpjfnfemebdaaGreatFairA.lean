/- fair.of, acting, Acts: the walks. Maps of a named type. -/
import Derived.Test.YtlhpjfnfemebdaaGreatCyclic
import Derived.Test.YtlhpjfnfemebdaaGreatSccLaw
set_option maxRecDepth 100000
set_option maxHeartbeats 64000000
set_option linter.unusedSimpArgs false
namespace Go.Proofs.YtlhpjfnfemebdaaGreat
open Go.RowKit
open Go.RowKit Go.Maps
section
variable {w w':World} {b n sz:Nat} {f:Int→Option Int} {ops:Array Oper} {rest:List Oper} {o:Oper} {a:Act} {Q:Exit→Act→World→Prop}
theorem Gg {T:TypeId} (ht:Tryz.prog.underlying T=some (.map 3 3)) (h:Bu w b n f sz) (hg:o.guard=none) {m x:Operand} (hop:o.op=Op.lookup T m x false) (hm:a.eval m=.map (some b)) {k:Int} (hx:a.eval x=.int .i64 k) (hw:(Lit.int .i64 k).wf=true)
 (hK:wpList Tryz.prog ops Q rest (a.put o.dst (.int .i64 ((f k).getD 0))) w):wpList Tryz.prog ops Q (o::rest) a w:=by
 obtain⟨D,h1,-,h3,-⟩:=h;refine wpList_lookup_own_int w hg m x T hop 3 3 .i64 NU ht Tryz.underlying3 (UD w) b n D hm h1 _ (Mr k) hx (Qh hw) fun c hat hwc=>?_;rw[h3 k]at hat;simp only[DataW.lit.injEq,Lit.int.injEq,true_and]at hat;rw[← hat];exact hK
theorem Bu.putT{T:TypeId}(ht:Tryz.prog.underlying T=some (.map 3 3))(h:Bu w b n f sz)(hn:n<maxLen){k v:Int}(hk:(Lit.int .i64 k).wf=true)(hv:(Lit.int .i64 v).wf=true):
 ∃w',(Instr.mapUpdate T (.map (some b)) (.int .i64 k) (.int .i64 v)).run Tryz.prog w=.ok () w'∧Bu w' b (n+1) (fun x=>if x=k then some v else f x) (if(f k).isSome then sz else sz+1)∧w.grownBy w' (some b):=by
 obtain⟨D,h1,h2,h3,h4⟩:=h;obtain⟨w',hr,ho,hg⟩:=h1.update NU ht hn (Qh hk) (plainElem_int Tryz.underlying3 hv);have htd:=h1.tidy NU;have him:=h1.isMap;refine⟨w',hr,⟨_,ho,fun x=>?_,fun x=>?_,?_⟩,hg⟩
 ·show _=(if x=k then some v else f x).isSome;by_cases e:x=k
  ·rw[if_pos e,e,has_put_same him (Hl k)];rfl
  ·rw[if_neg e,has_put_other (fun q=>e (GR q)),h2]
 ·show _=DataW.lit (Lit.int IntKind.i64 ((if x=k then some v else f x).getD 0));by_cases e:x=k
  ·rw[if_pos e,e,atKey_put_same him (Hl k)];rfl
  ·rw[if_neg e,atKey_put_other (fun q=>e (GR q)),h3]
 ·rw[size_put htd,h2,h4]
theorem Sg {T:TypeId} (ht:Tryz.prog.underlying T=some (.map 3 3)) (h:Bu w b n f sz) (hn:n<maxLen) (hg:o.guard=none) {m x y:Operand} (hop:o.op=Op.mapUpdate T m x y) (hm:a.eval m=.map (some b)) {k v:Int} (hx:a.eval x=.int .i64 k) (hy:a.eval y=.int .i64 v)
 (hk:(Lit.int .i64 k).wf=true) (hv:(Lit.int .i64 v).wf=true)
 (hK:∀w',Bu w' b (n+1) (fun x=>if x=k then some v else f x) (if(f k).isSome then sz else sz+1)→w.grownBy w' (some b)→wpList Tryz.prog ops Q rest (a.put o.dst undef) w'):wpList Tryz.prog ops Q (o::rest) a w:=by
 obtain⟨w',hr,ho,hgr⟩:=h.putT ht hn hk hv;refine wpList_plain hg fun K' hK'=>?_;unfold Oper.wp;simp[execOp,hop,hm,hx,hy,hr,Result.andThen];exact hK' _ _ (hK w' ho hgr)
end
def KP(N:Nat)(P:Int→Prop)(f:Int→Option Int):Prop:=∀p,0≤(f p).getD 0∧(f p).getD 0≤(N:Int)∧(0<(f p).getD 0↔P p)
theorem PR:KP 0 (fun _=>False) (fun _=>none):=fun p=>⟨by simp,by simp,by simp⟩
theorem KP.same{N:Nat}{P P':Int→Prop}{f:Int→Option Int}(h:KP N P f)(e:∀p,P p↔P' p):KP N P' f:=fun p=>⟨(h p).1,(h p).2.1,(h p).2.2.trans (e p)⟩
theorem KP.le{N M:Nat}{P:Int→Prop}{f:Int→Option Int}(h:KP N P f)(e:N≤M):KP M P f:=fun p=>⟨(h p).1,by have:=(h p).2.1;omega,(h p).2.2⟩
theorem KP.step{N:Nat}{P:Int→Prop}{f:Int→Option Int}(h:KP N P f)(k:Int):KP (N+1) (fun p=>p=k∨P p) (fun x=>if x=k then some ((f k).getD 0+1) else f x):=by
 intro p;obtain⟨h1,h2,h3⟩:=h k;obtain⟨g1,g2,g3⟩:=h p;show 0≤(if p=k then some ((f k).getD 0+1) else f p).getD 0∧(if p=k then some ((f k).getD 0+1) else f p).getD 0≤((N+1:Nat):Int)∧(0<(if p=k then some ((f k).getD 0+1) else f p).getD 0↔p=k∨P p);by_cases hp:p=k
 ·rw[if_pos hp];simp only[Option.getD_some];exact⟨by omega,by omega,⟨fun _=>.inl hp,fun _=>by omega⟩⟩
 ·rw[if_neg hp];exact⟨g1,by omega,⟨fun q=>.inr (g3.1 q),fun q=>g3.2 (by rcases q with q | q;exact absurd q hp;exact q)⟩⟩
def YC(w:World)(B:Nat)(P:Int→Prop)(e:Ending)(w':World):Prop:=
 ∃mb m sz N f,e=.returned (.map (some mb))∧Bu w' mb m f sz∧KP N P f∧N≤B∧w.heap.size≤mb∧Below w.heap.size w w'
theorem fF(u:Value)(l:List Int)(w:World)(hu:Am w u l)(hw:∀x∈l,(Lit.int .i64 x).wf=true)(hl:l.length≤1000000):
 Calls Tryz.prog 121 #[u] w (YC w l.length (fun p=>p∈l)):=by
 obtain⟨a,c,rfl,ha⟩:=hu;have hmm:=@run_makeMap Tryz.prog;have M0:=Aa (Bu.made w);have HB:=Aa (Ae w (.map #[] 0));have HA:=Aa ha;have HW:=Aa hw;clear ha hw;go_enter Tryz.func121,Tryz.ntmps121;go_wp2_with fail
 go_loopg [9] l.length (fun fu c wr=>∃(k m sz:Nat) (f:Int→Option Int),k+fu=l.length∧c=.int .i64 k∧m≤k∧KP k (fun p=>p∈l.take k) f∧Bu wr w.heap.size m f sz∧Below w.heap.size w wr)
 case atStart=>exact⟨0,0,0,_,by omega,rfl,AQ _,PR.same (fun p=>by simp),M0.out,HB.out⟩
 case round=>
  clear M0 HB;obtain⟨k,m,sz,f,hk,rfl,hm,hf,hM,hb⟩:=hrel;by_cases hlt:k<l.length
  ·obtain⟨b1,o1,rfl,d1⟩:=HA.out k hlt;have y1:=Af hb d1;have z1:(k:Int)<(l.length:Int):=by omega
   have hst:=(hf.step (l.getD k 0)).same (P':=fun p=>p∈l.take (k+1)) (fun p=>by
    have e:l.take (k+1)=l.take k++[l.getD k 0]:=by
     rw[List.take_add_one,AM,Bf hlt];rfl
    rw[e,CJ,Ds];exact Or.comm)
   have hwf:=HW.out _ (Ch hlt);have hfp:=hf (l.getD k 0);generalize l.getD k 0=p at*;have hwr:IntKind.i64.wrap ((f p).getD 0+1)=(f p).getD 0+1:=DS _ (by omega);have HM:=Aa hM;have HWF:=Aa hwf;have HST:=Aa hst;have HB:=Aa hb;have HWP:Hid ((Lit.int .i64 ((f p).getD 0+1)).wf=true):=Aa (WalkArith.wf_i64 (by omega));clear d1 hst hwf hfp hM hb hf;go_wp2_with (first
    | (at_lookup;refine Gg Tryz.underlying161 HM.out rfl rfl rfl rfl HWF.out ?_)
    | (at_mapUpdate;refine Sg Tryz.underlying161 HM.out (by unfold maxLen;omega) rfl rfl rfl rfl (by first | rfl | rw[hwr];rfl) HWF.out HWP.out ?_;intro w2 hm2 hg2;have HM2:=Aa hm2;have HB2:=Aa (HB.out.grown hg2 HB.out.size (fun k hk=>by cases hk;exact AQ _));clear hm2 hg2))
   go_roundg (l.length - (k+1))
   case measure=>omega
   case rel=>exact⟨k+1,m+1,_,_,by omega,by simp,by omega,HST.out,HM2.out,HB2.out⟩
  ·obtain rfl:k=l.length:=by omega
   go_wp2_with fail
   go_ret;exact⟨_,_,_,_,f,rfl,hM,hf.same (fun p=>by rw[Ez]),AQ _,AQ _,hb⟩
def YG(g:Gr)(l:List Int)(a:Int):Prop:=∃e∈Av g,e.2.1=a∧e.1∈l∧e.2.2∈l
def Yw(g:Gr)(l:List Int)(k:Nat)(a:Int):Prop:=∃j,j<k∧∃e∈AR g (l.getD j 0),e.2.1=a∧e.2.2∈l
theorem Zr(g:Gr)(l:List Int)(a:Int):Yw g l l.length a↔YG g l a:=by
 constructor
 ·rintro⟨j,hj,e,he,h1,h2⟩;obtain⟨h3,h4⟩:=BZ.1 he;exact⟨e,h3,h1,by rw[h4];exact Ch hj,h2⟩
 ·rintro⟨e,he,h1,h2,h3⟩;obtain⟨j,hj,hje⟩:=Ey h2;exact⟨j,hj,e,BZ.2 ⟨he,by rw[AM,Bf hj];simpa using hje.symm⟩,h1,h3⟩
theorem Vo(g:Gr)(l:List Int)(k:Nat)(a:Int):Yw g l (k+1) a↔Yw g l k a∨∃r,r<(AR g (l.getD k 0)).length∧((AR g (l.getD k 0)).getD r (0,0,0)).2.1=a∧((AR g (l.getD k 0)).getD r (0,0,0)).2.2∈l:=by
 constructor
 ·rintro⟨j,hj,e,he,h1,h2⟩;by_cases hjk:j=k
  ·subst hjk;obtain⟨r,hr,rfl⟩:=Ey he;refine .inr ⟨r,hr,?_⟩;rw[AM,Bf hr];exact⟨h1,h2⟩
  ·exact .inl ⟨j,by omega,e,he,h1,h2⟩
 ·rintro(⟨j,hj,h⟩ | ⟨r,hr,h1,h2⟩)
  ·exact⟨j,by omega,h⟩
  ·refine⟨k,by omega,(AR g (l.getD k 0)).getD r (0,0,0),?_,h1,h2⟩;generalize AR g (l.getD k 0)=el at*;rw[AM,Bf hr];simp
structure cB(w wr:World)(gc:Array Value)(mb ob n1 s1:Nat)(f1:Int→Option Int)(n2 s2:Nat)(f2:Int→Option Int):Prop where
 below:Below w.heap.size w wr
 vg:wr.heap[w.heap.size]?=some (.cells gc 32 (0,0))
 m1:Bu wr mb n1 f1 s1
 m2:Bu wr ob n2 f2 s2
 ne:mb≠ob
 hob:w.heap.size≤ob
section
variable {w wr w':World} {gc:Array Value} {mb ob n1 s1:Nat} {f1:Int→Option Int} {n2 s2:Nat} {f2:Int→Option Int}
theorem cB.more(h:cB w wr gc mb ob n1 s1 f1 n2 s2 f2)(hb:Below wr.heap.size wr w'):cB w w' gc mb ob n1 s1 f1 n2 s2 f2:=
 ⟨h.below.trans (hb.mono h.below.size),Ah hb h.vg,h.m1.more hb,h.m2.more hb,h.ne,h.hob⟩
theorem cB.put(h:cB w wr gc mb ob n1 s1 f1 n2 s2 f2){n3 s3:Nat}{f3:Int→Option Int}(hm:Bu w' ob n3 f3 s3)(hg:wr.grownBy w' (some ob)):cB w w' gc mb ob n1 s1 f1 n3 s3 f3:=by
 have hne:some w.heap.size≠some ob:=by
  intro e;simp at e;exact h.m2.ne h.vg e.symm
 exact⟨h.below.grown hg h.below.size (fun k hk=>by cases hk;exact h.hob),(hg.block _ (BO.1 h.vg).1 hne).trans h.vg,h.m1.kept hg (by simpa using h.ne),hm,h.ne,h.hob⟩
end
theorem Bu.off{w:World}{b n sz:Nat}{f:Int→Option Int}(h:Bu w b n f sz){p:Addr}{v:Value}(hc:w.cell? p=some v):p.block≠b:=by
 rintro rfl;obtain⟨D,⟨es,c,h0,-⟩,-⟩:=h;simp[World.cell?,h0]at hc
theorem Ax.mapUpd{w w':World}{ob n sz:Nat}{f:Int→Option Int}{v:Value}{l:List Ed}(h:Ax w v l)(hm:Bu w ob n f sz)(hg:w.grownBy w' (some ob)):Ax w' v l:=by
 obtain⟨a,cap,e,h⟩:=h;refine⟨a,cap,e,fun j hj=>?_⟩;obtain⟨b,off,e,h1,h2,h3⟩:=h j hj;have k:∀(p:Addr) (v:Value),w.cell? p=some v→w'.cell? p=some v:=fun p v hc=>hg.cell hc (by have:=hm.off hc;simpa using this);exact⟨b,off,e,k _ _ h1,k _ _ h2,k _ _ h3⟩
theorem Wi(v u:Value)(g:Gr)(l:List Int)(w:World)(h:Ao w v g)(hu:Am w u l)(hw:∀x∈l,(Lit.int .i64 x).wf=true)(hl:l.length≤1000000)(hA:∀e∈Av g,(Lit.int .i64 e.2.1).wf=true):
 Calls Tryz.prog 116 #[v,u] w (YC w (l.length*1000000) (YG g l)):=by
 obtain⟨C,hC⟩:∃C,1000000=C:=⟨_,rfl⟩;obtain⟨sa,aa,ta,sc,ac,tc,rfl,-⟩:=h.var;have hb:=Ae w (.cells #[.slice sa g.S.length sc,.slice aa g.A.length ac,.slice ta g.T.length tc] 32);have OF:=Aa (fF u l _ (hu.below hb) hw hl);obtain⟨a,c,rfl,ha⟩:=hu;have hmm:=@run_makeMap Tryz.prog;have OUT:=Aa (fun(w':World) (hw:Below w.heap.size w w') (i:Int)=>NT _ g i w' (h.below hw));have OWF:=Aa (fun(i:Int) (e:Ed) (he:e∈AR g i)=>And.intro (Uy h he) (hA e (BZ.1 he).1));have OLEN:=Aa (fun(i:Int)=>CP (Fk g i) h.sT);have X0:=Aa (Ar w (.cells #[.slice sa g.S.length sc,.slice aa g.A.length ac,.slice ta g.T.length tc] 32));have HB:=Aa hb;have HAA:=Aa ha;have KS:=Aa (fun k a=>Vo g l k a);have KA:=Aa (fun a=>Zr g l a);have K0:Hid (∀a,False↔Yw g l 0 a):=Aa (fun a=>⟨fun h=>h.elim,fun⟨j,hj,_⟩=>by omega⟩);clear h hb ha hw hA;have HKC:Hid (∀k,k≤l.length→k*C≤1000000000000):=Aa (fun k hk=>by rw[← hC];omega);have HSC:Hid (∀k,(k+1)*C=k*C+C):=Aa (fun k=>Nat.succ_mul k C);rw[show l.length*1000000=l.length*C by rw[hC]];have hC1:C≤1000000:=by omega
 have OLEN2:Hid (∀i,(AR g i).length≤C):=Aa (fun i=>by rw[← hC];exact OLEN.out i);clear hC;generalize Yw g l=AK at*;go_enter Tryz.func116,Tryz.ntmps116;go_wp2_with (go_at_call 121;refine OF.out.mono ?_;rintro e w1 ⟨mb,m1,s1,N1,f1,rfl,hM,hF,hN,hmb,hb1⟩;have A1:=Aa (show cB w (w1.alloc (.map #[] 0)) #[.slice sa g.S.length sc,.slice aa g.A.length ac,.slice ta g.T.length tc] mb w1.heap.size m1 s1 f1 0 0 (fun _=>none) from⟨(HB.out.trans (hb1.mono HB.out.size)).trans ((Ae w1 _).mono (HB.out.trans (hb1.mono HB.out.size)).size),Ah (Ae w1 _) (Ah hb1 X0.out),hM.more (Ae w1 _),Bu.made w1,by have:=hM.lt;omega,(HB.out.trans (hb1.mono HB.out.size)).size⟩);have HF1:=Aa hF;clear hM hF hN hmb hb1)
 go_loopg [16] l.length (fun fu c wr=>∃(k m sz:Nat) (f:Int→Option Int),k+fu=l.length∧c=.int .i64 k∧m≤k*C∧Hid (KP (k*C) (AK k) f)∧Hid (cB w wr #[.slice sa g.S.length sc,.slice aa g.A.length ac,.slice ta g.T.length tc] mb w1.heap.size m1 s1 f1 m sz f))
 case atStart=>exact⟨0,0,0,_,by omega,rfl,Nat.zero_le _,Aa ((PR.same K0.out).le (Nat.zero_le _)),A1⟩
 case round=>
  clear A1 HB X0;obtain⟨k,m,sz,f,hk,rfl,hm,HF,HM⟩:=hrel;by_cases hlt:k<l.length
  ·obtain⟨b1,o1,rfl,d1⟩:=HAA.out k hlt;have y1:=Af HM.out.below d1;have z1:(k:Int)<(l.length:Int):=by omega
   obtain⟨c0,c1,c2⟩:=DY HM.out.vg;have HO:=Aa (OUT.out wr HM.out.below (l.getD k 0));have HWE:=Aa (OWF.out (l.getD k 0));have hol:=OLEN2.out (l.getD k 0);have hkc:=HKC.out k (by omega);have hsc:=HSC.out k;have HKS:=Aa (KS.out k);clear d1;generalize AR g (l.getD k 0)=el at*;generalize l.getD k 0=p at*;go_wp2_with (go_at_call 83;refine HO.out.mono ?_;rintro e w3 ⟨rv,rfl,hE,hb3⟩;obtain⟨ea,ec,rfl,hE⟩:=hE;have HED:=Aa hE;have HM3:=Aa (HM.out.more hb3);clear hb3 hE)
   clear c0 c1 c2 y1;go_loopg [24] el.length (fun fu c wr=>∃(r m sz:Nat) (f:Int→Option Int),r+fu=el.length∧c=.int .i64 r∧m≤k*C+r∧Hid (KP (k*C+r) (fun a=>AK k a∨∃q,q<r∧(el.getD q (0,0,0)).2.1=a∧(el.getD q (0,0,0)).2.2∈l) f)∧Hid (cB w wr #[.slice sa g.S.length sc,.slice aa g.A.length ac,.slice ta g.T.length tc] mb w1.heap.size m1 s1 f1 m sz f)∧Hid (Ax wr (.slice ea el.length ec) el))
   case atStart=>exact⟨0,m,sz,f,by omega,rfl,by omega,Aa (HF.out.same (fun a=>⟨.inl,fun h=>by rcases h with h | ⟨q,hq,_⟩;exact h;omega⟩)),HM3,Aa ⟨ea,ec,rfl,HED.out⟩⟩
   case round=>
    obtain⟨r,m,sz,f,hr,rfl,hm,HF,HM,HE⟩:=hrel;obtain⟨ea',ec',e0,hE⟩:=HE.out;simp only[Value.slice.injEq,true_and]at e0;obtain⟨rfl,rfl⟩:=e0;have HED:=Aa hE;clear hE;by_cases hlt3:r<el.length
    ·obtain⟨b3,o3,rfl,e1,e2,e3⟩:=HED.out r hlt3;have z3:(r:Int)<(el.length:Int):=by omega
     have hin:el.getD r (0,0,0)∈el:=by rw[AM,Bf hlt3];simp
     have HZ:=Aa (HWE.out _ hin);have HPS:Hid (∀a,(if(el.getD r (0,0,0)).2.2∈l then(a=(el.getD r (0,0,0)).2.1∨(AK k a∨∃q,q<r∧(el.getD q (0,0,0)).2.1=a∧(el.getD q (0,0,0)).2.2∈l)) else(AK k a∨∃q,q<r∧(el.getD q (0,0,0)).2.1=a∧(el.getD q (0,0,0)).2.2∈l))↔(AK k a∨∃q,q<r+1∧(el.getD q (0,0,0)).2.1=a∧(el.getD q (0,0,0)).2.2∈l)):=Aa (fun a=>by
      by_cases hz:(el.getD r (0,0,0)).2.2∈l
      ·rw[if_pos hz];constructor
       ·rintro(h | h | ⟨q,hq,h⟩)
        ·exact .inr ⟨r,by omega,h.symm,hz⟩
        ·exact .inl h
        ·exact .inr ⟨q,by omega,h⟩
       ·rintro(h | ⟨q,hq,h1,h2⟩)
        ·exact .inr (.inl h)
        ·by_cases e:q=r
         ·subst e;exact .inl h1.symm
         ·exact .inr (.inr ⟨q,by omega,h1,h2⟩)
      ·rw[if_neg hz];constructor
       ·rintro(h | ⟨q,hq,h⟩)
        ·exact .inl h
        ·exact .inr ⟨q,by omega,h⟩
       ·rintro(h | ⟨q,hq,h1,h2⟩)
        ·exact .inl h
        ·by_cases e:q=r
         ·subst e;exact absurd h2 hz
         ·exact .inr ⟨q,by omega,h1,h2⟩)
     clear hin;generalize el.getD r (0,0,0)=ed at*;obtain⟨ex,ey,ez⟩:=ed;have hb4:=Ae wr (.cells #[.int .i64 ex,.int .i64 ey,.int .i64 ez] 54);have HM4:=Aa (HM.out.more hb4);have HE4:=Aa (HE.out.below hb4);have hfz:=HF.out ey;have hpos:=(HF1.out ez).2.2;have HPOS:=Aa hpos;clear hb4 hpos;by_cases hz:ez∈l
     ·have hz2:=HPOS.out.2 hz;have hwr:IntKind.i64.wrap ((f ey).getD 0+1)=(f ey).getD 0+1:=DS _ (by omega);have HWP:Hid ((Lit.int .i64 ((f ey).getD 0+1)).wf=true):=Aa (WalkArith.wf_i64 (by omega));have HFN:=Aa (((HF.out.step ey).same (P':=(fun a=>AK k a∨∃q,q<r+1∧(el.getD q (0,0,0)).2.1=a∧(el.getD q (0,0,0)).2.2∈l)) (fun a=>by have:=HPS.out a;rw[if_pos hz]at this;exact this)).le (M:=k*C+(r+1)) (by omega));clear hfz;go_wp2_with (first
       | (at_lookup;refine Gg Tryz.underlying161 HM4.out.m1 rfl rfl rfl rfl HZ.out.1 ?_)
       | (at_lookup;refine Gg Tryz.underlying161 HM4.out.m2 rfl rfl rfl rfl HZ.out.2 ?_)
       | (at_mapUpdate;refine Sg Tryz.underlying161 HM4.out.m2 (by unfold maxLen;omega) rfl rfl rfl rfl (by first | rfl | rw[hwr];rfl) HZ.out.2 HWP.out ?_;intro w5 hm5 hg5;have HM5:=Aa (HM4.out.put hm5 hg5);have HE5:=Aa (HE4.out.mapUpd HM4.out.m2 hg5);clear hm5 hg5))
      go_roundg (el.length - (r+1))
      case measure=>omega
      case rel=>exact⟨r+1,m+1,_,_,by omega,by simp,by omega,HFN,HM5,HE5⟩
     ·have hz2:¬0<(f1 ez).getD 0:=fun q=>hz (HPOS.out.1 q);have HFN:=Aa ((HF.out.same (P':=(fun a=>AK k a∨∃q,q<r+1∧(el.getD q (0,0,0)).2.1=a∧(el.getD q (0,0,0)).2.2∈l)) (fun a=>by have:=HPS.out a;rw[if_neg hz]at this;exact this)).le (M:=k*C+(r+1)) (by omega));go_wp2_with (first
       | (at_lookup;refine Gg Tryz.underlying161 HM4.out.m1 rfl rfl rfl rfl HZ.out.1 ?_))
      go_roundg (el.length - (r+1))
      case measure=>omega
      case rel=>exact⟨r+1,m,sz,f,by omega,by simp,by omega,HFN,HM4,HE4⟩
    ·obtain rfl:r=el.length:=by omega
     have HFN:=Aa ((HF.out.le (M:=(k+1)*C) (by omega)).same (P':=AK (k+1)) (fun a=>(HKS.out a).symm));go_wp2_with fail
     go_roundg (l.length - (k+1))
     case measure=>omega
     case rel=>exact⟨k+1,m,sz,f,by omega,by simp,by omega,HFN,HM⟩
  ·obtain rfl:k=l.length:=by omega
   go_wp2_with fail
   go_ret;exact⟨_,_,_,_,f,rfl,HM.out.m2,HF.out.same KA.out,AQ _,HM.out.hob,HM.out.below⟩
theorem cM(v:Value)(l:List Int)(x:Int)(w:World)(h:Am w v l)(hl:l.length≤1000000):
 Calls Tryz.prog 91 #[v,.int .i64 x] w fun e w'=>e=.returned (.bool (decide (x∈l)))∧Below w.heap.size w w':=by
 obtain⟨a,ac,rfl,ha⟩:=h;have HA:=Aa ha;clear ha;go_enter Tryz.func91,Tryz.ntmps91;go_wp2_with fail
 go_loopg [5] l.length (fun fu c wr=>∃k:Nat,k+fu=l.length∧c=.int .i64 k∧(∀j,j<k→l.getD j 0≠x)∧w=wr)
 case atStart=>exact⟨0,by omega,rfl,fun j hj=>by omega,rfl⟩
 case round=>
  obtain⟨k,hk,rfl,hall,rfl⟩:=hrel;by_cases hlt:k<l.length
  ·obtain⟨b1,o1,rfl,d1⟩:=HA.out k hlt;have z1:(k:Int)<(l.length:Int):=by omega
   have HM:=Aa (show l.getD k 0∈l from Ch hlt);have HL:=Aa hall;have hnx:l.getD k 0≠x→∀j,j<k+1→l.getD j 0≠x:=fun hne j hj=>by
    by_cases e:j=k
    ·rw[e];exact hne
    ·exact HL.out j (by omega)
   have HN:=Aa hnx;clear hall hnx;generalize l.getD k 0=y at*;by_cases e:y=x
   ·go_wp2_with fail
    go_ret;exact⟨by rw[← e,Ck HM.out];rfl,Ak _ _⟩
   ·go_wp2_with fail
    go_roundg (l.length - (k+1))
    case measure=>omega
    case rel=>exact⟨k+1,by omega,by simp,HN.out e,rfl⟩
  ·have e:x∉l:=fun hm=>by
    obtain⟨j,hj,e⟩:=Ey hm;refine hall j (by omega) ?_;rw[AM,Bf hj];simpa using e
   go_wp2_with fail
   go_ret;exact⟨by rw[Cj e];rfl,Ak _ _⟩
def FC(g:Gr)(l:List Int)(a:Int):Bool:=decide (∃e∈Av g,e.2.1=a∧e.1∈l∧e.2.2∈l)
theorem Km{g:Gr}{l:List Int}{a:Int}:FC g l a=true↔YG g l a:=EU
theorem NQ(v u:Value)(g:Gr)(l:List Int)(ag:Int)(w:World)(h:Ao w v g)(hu:Am w u l)(hl:l.length≤1000000):
 Calls Tryz.prog 74 #[v,u,.int .i64 ag] w fun e w'=>e=.returned (.bool (FC g l ag))∧Below w.heap.size w w':=by
 obtain⟨sa,aa,ta,sc,ac,tc,rfl,-⟩:=h.var;have hb:=Ae w (.cells #[.slice sa g.S.length sc,.slice aa g.A.length ac,.slice ta g.T.length tc] 32);have RA:=Aa (Kl _ g _ (h.below hb));have HB:=Aa hb;have X0:=Aa (Ar w (.cells #[.slice sa g.S.length sc,.slice aa g.A.length ac,.slice ta g.T.length tc] 32));have HH:=Aa (fun(w':World) (hw:Below w.heap.size w w') (x:Int)=>cM u l x w' (hu.below hw) hl);have HE:Hid (∀k,(∀j,j<k→¬(((Av g).getD j (0,0,0)).2.1=ag∧((Av g).getD j (0,0,0)).1∈l∧((Av g).getD j (0,0,0)).2.2∈l))→k=(Av g).length→FC g l ag=false):=Aa (fun k hall hk=>by
  unfold FC;refine Cj ?_;rintro⟨e,he,h0,h1,h2⟩;obtain⟨j,hj,rfl⟩:=Ey he;refine hall j (by omega) ?_;rw[AM,Bf hj];exact⟨h0,h1,h2⟩)
 have HY:Hid (∀k,k<(Av g).length→((Av g).getD k (0,0,0)).2.1=ag→((Av g).getD k (0,0,0)).1∈l→((Av g).getD k (0,0,0)).2.2∈l→FC g l ag=true):=Aa (fun k hk h0 h1 h2=>by
  unfold FC;refine Ck ⟨(Av g).getD k (0,0,0),?_,h0,h1,h2⟩;rw[AM,Bf hk];simp)
 have hal:(Av g).length≤1000000:=by
  cases e:Bj g
  ·rw[Gf e];simp
  ·rw[Gd ((Aq g).1 e)];exact h.sT
 clear h hb hu hl;generalize Av g=al at*;go_enter Tryz.func74,Tryz.ntmps74;go_wp2_with (go_at_call 70;refine RA.out.mono ?_;rintro e w1 ⟨rv,rfl,hE,hb1⟩;obtain⟨ea,ec,rfl,hE⟩:=hE;have HED:=Aa hE;have HB1:=Aa (HB.out.trans (hb1.mono HB.out.size));clear hb1 hE)
 go_loopg [8] al.length (fun fu c wr=>∃k:Nat,k+fu=al.length∧c=.int .i64 k∧(∀j,j<k→¬((al.getD j (0,0,0)).2.1=ag∧(al.getD j (0,0,0)).1∈l∧(al.getD j (0,0,0)).2.2∈l))∧Below w1.heap.size w1 wr)
 case atStart=>exact⟨0,by omega,rfl,fun j hj=>by omega,Ak _ _⟩
 case round=>
  obtain⟨k,hk,rfl,hall,hbr⟩:=hrel;by_cases hlt:k<al.length
  ·obtain⟨b1,o1,rfl,d1,d2,d3⟩:=HED.out k hlt;have y2:=Af hbr d2;have y1:=Af hbr d1;have HBR:=Aa hbr;have D3:=Aa d3;have z1:(k:Int)<(al.length:Int):=by omega
   have HL:=Aa hall;have hnx:¬((al.getD k (0,0,0)).2.1=ag∧(al.getD k (0,0,0)).1∈l∧(al.getD k (0,0,0)).2.2∈l)→∀j,j<k+1→¬((al.getD j (0,0,0)).2.1=ag∧(al.getD j (0,0,0)).1∈l∧(al.getD j (0,0,0)).2.2∈l):=fun hne j hj=>by
    by_cases e:j=k
    ·rw[e];exact hne
    ·exact HL.out j (by omega)
   have HN:=Aa hnx;have HK:=Aa (HY.out k hlt);clear hall hnx d1 d2 d3 hbr;generalize al.getD k (0,0,0)=ed at*;obtain⟨ex,ey,ez⟩:=ed;have H1:=Aa (HH.out wr (HB1.out.trans (HBR.out.mono HB1.out.size)) ex);by_cases hn0:¬ey=ag
   ·go_wp2_with fail
    go_roundg (al.length - (k+1))
    case measure=>omega
    case rel=>exact⟨k+1,by omega,by simp,HN.out (fun q=>hn0 q.1),HBR.out⟩
   have m0:=Decidable.of_not_not hn0;clear hn0;by_cases m1:ex∈l
   ·rw[Ck m1]at H1;by_cases m2:ez∈l
    ·go_wp2_with (first
      | (go_at_call_of 91 (Value.int .i64 ex);refine H1.out.mono ?_;rintro e w2 ⟨rfl,hb2⟩;have HB2:=Aa (HBR.out.trans (hb2.mono HBR.out.size));have y3:=Af HB2.out D3.out;have H2:=Aa (HH.out w2 (HB1.out.trans (HB2.out.mono HB1.out.size)) ez);rw[Ck m2]at H2;clear hb2)
      | (go_at_call_of 91 (Value.int .i64 ez);refine H2.out.mono ?_;rintro e w3 ⟨rfl,hb3⟩;have HB3:=Aa (HB2.out.trans (hb3.mono HB2.out.size));clear hb3))
     go_ret;exact⟨by rw[HK.out m0 m1 m2];rfl,HB1.out.trans (HB3.out.mono HB1.out.size)⟩
    ·go_wp2_with (first
      | (go_at_call_of 91 (Value.int .i64 ex);refine H1.out.mono ?_;rintro e w2 ⟨rfl,hb2⟩;have HB2:=Aa (HBR.out.trans (hb2.mono HBR.out.size));have y3:=Af HB2.out D3.out;have H2:=Aa (HH.out w2 (HB1.out.trans (HB2.out.mono HB1.out.size)) ez);rw[Cj m2]at H2;clear hb2)
      | (go_at_call_of 91 (Value.int .i64 ez);refine H2.out.mono ?_;rintro e w3 ⟨rfl,hb3⟩;have HB3:=Aa (HB2.out.trans (hb3.mono HB2.out.size));clear hb3))
     go_roundg (al.length - (k+1))
     case measure=>omega
     case rel=>exact⟨k+1,by omega,by simp,HN.out (fun q=>m2 q.2.2),HB3.out⟩
   ·rw[Cj m1]at H1;go_wp2_with (first
     | (go_at_call_of 91 (Value.int .i64 ex);refine H1.out.mono ?_;rintro e w2 ⟨rfl,hb2⟩;have HB2:=Aa (HBR.out.trans (hb2.mono HBR.out.size));clear hb2))
    go_roundg (al.length - (k+1))
    case measure=>omega
    case rel=>exact⟨k+1,by omega,by simp,HN.out (fun q=>m1 q.2.1),HB2.out⟩
  ·obtain rfl:k=al.length:=by omega
   have e:=HE.out _ hall rfl;go_wp2_with fail
   go_ret;exact⟨by rw[e];rfl,HB1.out.trans (hbr.mono HB1.out.size)⟩
def AO(w:World)(v:Value)(rows:List (List Bool)):Prop:=
 ∃a cap,v=.slice a rows.length cap∧∀j,j<rows.length→∃b off u,a=some ⟨b,off,none⟩∧w.cell? ⟨b,off+j,none⟩=some u∧Bc w u (rows.getD j [])
theorem AO.below{w w':World}{v:Value}{rows:List (List Bool)}(h:AO w v rows)(hb:Below w.heap.size w w'):AO w' v rows:=by
 obtain⟨a,cap,e,h⟩:=h;refine⟨a,cap,e,fun j hj=>?_⟩;obtain⟨b,off,u,e,h1,h2⟩:=h j hj;exact⟨b,off,u,e,Af hb h1,h2.below hb⟩
structure RT(g:Gr)(en:List (List Bool))(ag:Int):Prop where
 right:Rt g
 h0:0≤ag
 h1:ag≤100
 len:en.length=Ad g
 rows:∀i,i<en.length→((en.getD i []).length:Int)=ag
 edges:∀e∈Av g,e.2.1<ag∧(en.getD e.1.toNat []).getD e.2.1.toNat false=true
open Classical in
noncomputable def Tn(g:Gr)(en:List (List Bool))(ag:Int):Bool:=decide (RT g en ag)
open Classical in
theorem DW{g:Gr}{en:List (List Bool)}{ag:Int}(h:¬RT g en ag):Tn g en ag=false:=Cj h
open Classical in
theorem MC{g:Gr}{en:List (List Bool)}{ag:Int}(h:RT g en ag):Tn g en ag=true:=Ck h
theorem RT.wf{g:Gr}{en:List (List Bool)}{ag:Int}(h:RT g en ag):∀e∈Av g,(Lit.int .i64 e.2.1).wf=true:=fun e he=>by
 have h1:=(h.edges e he).1;have h2:=Bt h.right he;have h3:=h.h1;exact WalkArith.wf_i64 (by omega)
theorem QN(v u:Value)(g:Gr)(en:List (List Bool))(ag:Int)(w:World)(h:Ao w v g)(hu:AO w u en):
 Calls Tryz.prog 42 #[v,u,.int .i64 ag] w fun e w'=>e=.returned (.bool (Tn g en ag))∧Below w.heap.size w w':=by
 obtain⟨sa,aa,ta,sc,ac,tc,rfl,-⟩:=h.var;have hb:=Ae w (.cells #[.slice sa g.S.length sc,.slice aa g.A.length ac,.slice ta g.T.length tc] 32);have RR:=Aa (FP _ g _ (h.below hb));have RN:=Aa (fun(w':World) (hw:Below w.heap.size w w')=>El _ g w' (h.below hw));have RA:=Aa (fun(w':World) (hw:Below w.heap.size w w')=>Kl _ g w' (h.below hw));have HB:=Aa hb;have X0:=Aa (Ar w (.cells #[.slice sa g.S.length sc,.slice aa g.A.length ac,.slice ta g.T.length tc] 32));have HU:=Aa hu;obtain⟨ua,uc,rfl,hrow⟩:=hu;have HRW:=Aa hrow;cases hr:Bj g
 ·have E:=Aa (DW (g:=g) (en:=en) (ag:=ag) (fun q=>by rw[(Aq g).2 q.right]at hr;cases hr));rw[hr]at RR;rw[E.out];clear h hb hr hrow;go_enter Tryz.func42,Tryz.ntmps42;go_wp2_with (go_at_call 51;refine RR.out.mono ?_;rintro e w1 ⟨rfl,hb1⟩;have HB1:=Aa (HB.out.trans (hb1.mono HB.out.size));clear hb1)
  go_ret;exact⟨rfl,HB1.out⟩
 rw[hr]at RR;have hR:=(Aq g).1 hr;by_cases h0:ag<0
 ·have E:=Aa (DW (g:=g) (en:=en) (ag:=ag) (fun q=>by have:=q.h0;omega));rw[E.out];clear h hb hr hrow;go_enter Tryz.func42,Tryz.ntmps42;go_wp2_with (go_at_call 51;refine RR.out.mono ?_;rintro e w1 ⟨rfl,hb1⟩;have HB1:=Aa (HB.out.trans (hb1.mono HB.out.size));clear hb1)
  go_ret;exact⟨rfl,HB1.out⟩
 by_cases h1:100<ag
 ·have E:=Aa (DW (g:=g) (en:=en) (ag:=ag) (fun q=>by have:=q.h1;omega));rw[E.out];clear h hb hr hrow;go_enter Tryz.func42,Tryz.ntmps42;go_wp2_with (go_at_call 51;refine RR.out.mono ?_;rintro e w1 ⟨rfl,hb1⟩;have HB1:=Aa (HB.out.trans (hb1.mono HB.out.size));clear hb1)
  go_ret;exact⟨rfl,HB1.out⟩
 by_cases hlen0:¬en.length=Ad g
 ·have E:=Aa (DW (g:=g) (en:=en) (ag:=ag) (fun q=>hlen0 q.len));rw[E.out];have hl2:¬(en.length:Int)=(Ad g:Int):=by omega
  clear h hb hr hrow;generalize Ad g=n at*;have hl3:((en.length:Int)!=(n:Int))=true:=by rw[bne_iff_ne];exact hl2
  go_enter Tryz.func42,Tryz.ntmps42;go_wp2_with (first
   | (go_at_call 51;refine RR.out.mono ?_;rintro e w1 ⟨rfl,hb1⟩;have HB1:=Aa (HB.out.trans (hb1.mono HB.out.size));have HX1:=Aa (Ah hb1 X0.out);obtain⟨c0,c1,c2⟩:=DY HX1.out;clear hb1)
   | (go_at_call 30;refine(RN.out _ HB1.out).mono ?_;rintro e w2 ⟨rfl,hb2⟩;have HB2:=Aa (HB1.out.trans (hb2.mono HB1.out.size));clear hb2))
  go_ret;exact⟨rfl,HB2.out⟩
 have hlen:=Decidable.of_not_not hlen0;clear hlen0;have hsz:=h.sS;have hsT:=h.sT;have hnn:=Ap hR;have hne:=hR.ne;have AL:Hid ((Av g).length≤1000000):=Aa (by rw[Gd hR];exact hsT);have hel:en.length≤1000000:=by omega
 have HLEN:=Aa hlen;have OE:=Aa (fun e (he:e∈Av g)=>Bt hR he);have HRT:=Aa (fun(h2:∀i,i<en.length→((en.getD i []).length:Int)=ag) (h3:∀e∈Av g,e.2.1<ag∧(en.getD e.1.toNat []).getD e.2.1.toNat false=true)=>MC (g:=g) (en:=en) (ag:=ag) ⟨hR,by omega,by omega,hlen,h2,h3⟩);have HNR:=Aa (fun i (hi:i<en.length) (h2:¬((en.getD i []).length:Int)=ag)=>DW (g:=g) (en:=en) (ag:=ag) (fun q=>h2 (q.rows i hi)));have HNE:=Aa (fun e (he:e∈Av g) (h2:¬(e.2.1<ag∧(en.getD e.1.toNat []).getD e.2.1.toNat false=true))=>DW (g:=g) (en:=en) (ag:=ag) (fun q=>h2 (q.edges e he)));have HNN:=Aa (show Ad g=g.S.length - 1 from hnn);clear h hb hr hrow hR;rw[← hlen]at RN;clear hlen hnn hne hsz hsT;have nl:=CD (en.length:Int);have nl2:((en.length:Int)!=(en.length:Int))=false:=by simp
 go_enter Tryz.func42,Tryz.ntmps42;go_wp2_with (first
  | (go_at_call 51;refine RR.out.mono ?_;rintro e w1 ⟨rfl,hb1⟩;have HB1:=Aa (HB.out.trans (hb1.mono HB.out.size));have HX1:=Aa (Ah hb1 X0.out);obtain⟨c0,c1,c2⟩:=DY HX1.out;clear hb1)
  | (go_at_call 30;refine(RN.out _ HB1.out).mono ?_;rintro e w2 ⟨rfl,hb2⟩;have HB2:=Aa (HB1.out.trans (hb2.mono HB1.out.size));have HX2:=Aa (Ah hb2 HX1.out);clear hb2))
 clear c0 c1 c2;go_loopg [7] en.length (fun fu c wr=>∃i:Nat,i+fu=en.length∧c=.int .i64 i∧(∀j,j<i→((en.getD j []).length:Int)=ag)∧w2=wr)
 case atStart=>exact⟨0,by omega,rfl,fun j hj=>by omega,rfl⟩
 case round=>
  obtain⟨i,hi,rfl,hall,rfl⟩:=hrel;by_cases hlt:i<en.length
  ·obtain⟨b,off,uu,rfl,c1,r1⟩:=HRW.out i hlt;obtain⟨ra,rc,rfl,-⟩:=r1;have y1:=Af HB2.out c1;have z1:(i:Int)<(en.length:Int):=by omega
   have HAL:=Aa hall;have HNI:=Aa (HNR.out i hlt);have HNX:Hid (((en.getD i []).length:Int)=ag→∀j,j<i+1→((en.getD j []).length:Int)=ag):=Aa (fun hne j hj=>by
    by_cases e:j=i
    ·rw[e];exact hne
    ·exact HAL.out j (by omega))
   clear c1 hall;generalize (en.getD i []).length=rl at*;by_cases hrl:(rl:Int)=ag
   ·have n3:((rl:Int)!=ag)=false:=by rw[hrl];simp
    go_wp2_with fail
    go_roundg (en.length - (i+1))
    case measure=>omega
    case rel=>exact⟨i+1,by omega,by simp,HNX.out hrl,rfl⟩
   ·have E:=Aa (HNI.out hrl);have n3:((rl:Int)!=ag)=true:=by rw[bne_iff_ne];exact hrl
    go_wp2_with fail
    go_ret;exact⟨by rw[E.out];rfl,HB2.out⟩
  ·obtain rfl:i=en.length:=by omega
   have HALL:=Aa hall;obtain⟨c0,c1,c2⟩:=DY HX2.out;have HAC:=Aa (RA.out _ HB2.out);clear hall;go_wp2_with (go_at_call 70;refine HAC.out.mono ?_;rintro e w3 ⟨lv,rfl,hE,hb3⟩;obtain⟨la,lc,rfl,hE⟩:=hE;have HED:=Aa hE;have HB3:=Aa (HB2.out.trans (hb3.mono HB2.out.size));clear hb3 hE)
   clear c0 c1 c2;have hal:=AL.out;have HRTX:Hid ((∀j,j<(Av g).length→((Av g).getD j (0,0,0)).2.1<ag∧(en.getD ((Av g).getD j (0,0,0)).1.toNat []).getD ((Av g).getD j (0,0,0)).2.1.toNat false=true)→Tn g en ag=true):=Aa (fun h=>HRT.out HALL.out (fun e he=>by
    obtain⟨j,hj,rfl⟩:=Ey he;have:=h j hj;rwa [AM,Bf hj]at this))
   have HIN:Hid (∀j,j<(Av g).length→(Av g).getD j (0,0,0)∈Av g):=Aa (fun j hj=>by
    rw[AM,Bf hj];simp)
   generalize Av g=al at*;go_loopg [9] al.length (fun fu c wr=>∃k:Nat,k+fu=al.length∧c=.int .i64 k∧(∀j,j<k→(al.getD j (0,0,0)).2.1<ag∧(en.getD (al.getD j (0,0,0)).1.toNat []).getD (al.getD j (0,0,0)).2.1.toNat false=true)∧Below w3.heap.size w3 wr)
   case atStart=>exact⟨0,by omega,rfl,fun j hj=>by omega,Ak _ _⟩
   case round=>
    obtain⟨k,hk,rfl,hall,hbr⟩:=hrel;by_cases hlt:k<al.length
    ·obtain⟨be,oe,rfl,e1,e2,e3⟩:=HED.out k hlt;have y1:=Af hbr e1;have y2:=Af hbr e2;have z1:(k:Int)<(al.length:Int):=by omega
     have hm:=OE.out _ (HIN.out k hlt);have HAL:=Aa hall;have HNI:=Aa (HNE.out _ (HIN.out k hlt));have HNX:Hid (((al.getD k (0,0,0)).2.1<ag∧(en.getD (al.getD k (0,0,0)).1.toNat []).getD (al.getD k (0,0,0)).2.1.toNat false=true)→∀j,j<k+1→(al.getD j (0,0,0)).2.1<ag∧(en.getD (al.getD j (0,0,0)).1.toNat []).getD (al.getD j (0,0,0)).2.1.toNat false=true):=Aa (fun hne j hj=>by
      by_cases e:j=k
      ·rw[e];exact hne
      ·exact HAL.out j (by omega))
     have HB4:=Aa (HB3.out.trans (hbr.mono HB3.out.size));have HBR:=Aa hbr;clear e1 e2 e3 hall hbr;generalize al.getD k (0,0,0)=ed at*;obtain⟨ex,ey,ez⟩:=ed;obtain⟨h1,h2,h3,h4,h5⟩:=hm;simp only at h1 h2 h3 h4 h5 y1 y2 HNI HNX;obtain⟨a,rfl⟩:∃a:Nat,ex=(a:Int):=⟨ex.toNat,by omega⟩;obtain⟨b,rfl⟩:∃b:Nat,ey=(b:Int):=⟨ey.toNat,by omega⟩;simp only[BT]at HNI HNX;have ha:a<en.length:=by have:=HNN.out;have:=HLEN.out;omega
     have z2:(a:Int)<(en.length:Int):=by omega
     obtain⟨b5,o5,uu,rfl,c5,r5⟩:=HRW.out a ha;have hra:=HALL.out a ha;by_cases hb:(b:Int)<ag
     ·have hb2:b<(en.getD a []).length:=by omega
      obtain⟨ra,rc,rfl,r5⟩:=r5;obtain⟨b6,o6,rfl,d6⟩:=r5 b hb2;have y5:=Af HB4.out c5;have y6:=Af HB4.out d6;have z3:(b:Int)<((en.getD a []).length:Int):=by omega
      clear c5 r5 d6 hra;cases hx:(en.getD a []).getD b false
      ·have E:=Aa (HNI.out (fun q=>by rw[hx]at q;exact absurd q.2 (by simp)));rw[hx]at y6;clear hx;generalize (en.getD a []).length=rl at*;go_wp2_with fail
       (refine AI (by kernel_rfl) (by kernel_rfl) ?_;(repeat still_step);refine wpStill_nil ?_)
       go_wp2_with fail
       go_ret;exact⟨by rw[E.out];rfl,HB4.out.drew⟩
      ·have E:=Aa (HNX.out ⟨hb,hx⟩);rw[hx]at y6;clear hx;generalize (en.getD a []).length=rl at*;go_wp2_with fail
       (refine AI (by kernel_rfl) (by kernel_rfl) ?_;(repeat still_step);refine wpStill_nil ?_)
       go_wp2_with fail
       go_roundg (al.length - (k+1))
       case measure=>omega
       case rel=>exact⟨k+1,by omega,by simp,E.out,by first | exact HBR.out.drew | exact HBR.out⟩
     ·have E:=Aa (HNI.out (fun q=>hb q.1));have hb3:ag≤(b:Int):=by omega
      clear c5 r5 hra;go_wp2_with fail
      go_quiet (fail)
      go_wp2_with fail
      go_ret;exact⟨by rw[E.out];rfl,by first | exact HB4.out.drew | exact BD HB4.out _⟩
    ·obtain rfl:k=al.length:=by omega
     have E:=Aa (HRTX.out hall);go_wp2_with fail
     go_ret;exact⟨by rw[E.out];rfl,HB3.out.trans (hbr.mono HB3.out.size)⟩
theorem fO(v u:Value)(g:Gr)(en:List (List Bool))(ag:Int)(w:World)(h:Ao w v g)(hu:AO w u en):
 Calls Tryz.prog 80 #[v,u,.int .i64 ag] w fun e w'=>e=.returned (.bool (Tn g en ag))∧Below w.heap.size w w':=by
 obtain⟨sa,aa,ta,sc,ac,tc,rfl,-⟩:=h.var;have hb:=Ae w (.cells #[.slice sa g.S.length sc,.slice aa g.A.length ac,.slice ta g.T.length tc] 32);have RR:=Aa (Kp _ g _ (h.below hb));have RN:=Aa (fun(w':World) (hw:Below w.heap.size w w')=>Hb _ g w' (h.below hw));have RO:=Aa (fun(w':World) (hw:Below w.heap.size w w') (i:Int)=>NT _ g i w' (h.below hw));have HB:=Aa hb;have X0:=Aa (Ar w (.cells #[.slice sa g.S.length sc,.slice aa g.A.length ac,.slice ta g.T.length tc] 32));have HU:=Aa hu;obtain⟨ua,uc,rfl,hrow⟩:=hu;have HRW:=Aa hrow;cases hr:Bj g
 ·have E:=Aa (DW (g:=g) (en:=en) (ag:=ag) (fun q=>by rw[(Aq g).2 q.right]at hr;cases hr));rw[hr]at RR;rw[E.out];clear h hb hr hrow;go_enter Tryz.func80,Tryz.ntmps80;go_wp2_with (go_at_call 96;refine RR.out.mono ?_;rintro e w1 ⟨rfl,hb1⟩;have HB1:=Aa (HB.out.trans (hb1.mono HB.out.size));clear hb1)
  go_ret;exact⟨rfl,HB1.out⟩
 rw[hr]at RR;have hR:=(Aq g).1 hr;by_cases h0:ag<0
 ·have E:=Aa (DW (g:=g) (en:=en) (ag:=ag) (fun q=>by have:=q.h0;omega));rw[E.out];clear h hb hr hrow;go_enter Tryz.func80,Tryz.ntmps80;go_wp2_with (go_at_call 96;refine RR.out.mono ?_;rintro e w1 ⟨rfl,hb1⟩;have HB1:=Aa (HB.out.trans (hb1.mono HB.out.size));clear hb1)
  go_ret;exact⟨rfl,HB1.out⟩
 by_cases h1:100<ag
 ·have E:=Aa (DW (g:=g) (en:=en) (ag:=ag) (fun q=>by have:=q.h1;omega));rw[E.out];clear h hb hr hrow;go_enter Tryz.func80,Tryz.ntmps80;go_wp2_with (go_at_call 96;refine RR.out.mono ?_;rintro e w1 ⟨rfl,hb1⟩;have HB1:=Aa (HB.out.trans (hb1.mono HB.out.size));clear hb1)
  go_ret;exact⟨rfl,HB1.out⟩
 by_cases hlen0:¬en.length=Ad g
 ·have E:=Aa (DW (g:=g) (en:=en) (ag:=ag) (fun q=>hlen0 q.len));rw[E.out];have hl2:¬(en.length:Int)=(Ad g:Int):=by omega
  clear h hb hr hrow;generalize Ad g=n at*;have hl3:((en.length:Int)!=(n:Int))=true:=by rw[bne_iff_ne];exact hl2
  go_enter Tryz.func80,Tryz.ntmps80;go_wp2_with (first
   | (go_at_call 96;refine RR.out.mono ?_;rintro e w1 ⟨rfl,hb1⟩;have HB1:=Aa (HB.out.trans (hb1.mono HB.out.size));have HX1:=Aa (Ah hb1 X0.out);obtain⟨c0,c1,c2⟩:=DY HX1.out;clear hb1)
   | (go_at_call 97;refine(RN.out _ HB1.out).mono ?_;rintro e w2 ⟨rfl,hb2⟩;have HB2:=Aa (HB1.out.trans (hb2.mono HB1.out.size));clear hb2))
  go_ret;exact⟨rfl,HB2.out⟩
 have hlen:=Decidable.of_not_not hlen0;clear hlen0;have hsz:=h.sS;have hsT:=h.sT;have hnn:=Ap hR;have hne:=hR.ne;have hel:en.length≤1000000:=by omega
 have HLEN:=Aa hlen;have OE:=Aa (fun(i:Nat) e (he:e∈AR g (i:Int))=>And.intro (Bt hR (BZ.1 he).1) (BZ.1 he).2);have OLEN:=Aa (fun(i:Int)=>CP (Fk g i) h.sT);have HRT:=Aa (fun(h2:∀i,i<en.length→((en.getD i []).length:Int)=ag∧∀e∈AR g (i:Int),e.2.1<ag∧(en.getD i []).getD e.2.1.toNat false=true)=>MC (g:=g) (en:=en) (ag:=ag) ⟨hR,by omega,by omega,hlen,fun i hi=>(h2 i hi).1,fun e he=>by
  have hm:=Bt hR he;have hi:e.1.toNat<en.length:=by omega
  exact(h2 e.1.toNat hi).2 e (BZ.2 ⟨he,by omega⟩)⟩)
 have HNR:=Aa (fun i (hi:i<en.length) (h2:¬((en.getD i []).length:Int)=ag)=>DW (g:=g) (en:=en) (ag:=ag) (fun q=>h2 (q.rows i hi)));have HNE:=Aa (fun(i:Nat) e (he:e∈AR g (i:Int)) (h2:¬(e.2.1<ag∧(en.getD i []).getD e.2.1.toNat false=true))=>DW (g:=g) (en:=en) (ag:=ag) (fun q=>h2 (by
  obtain⟨h3,h4⟩:=BZ.1 he;have:=q.edges e h3;rw[show e.1.toNat=i by omega]at this;exact this)))
 have HNN:=Aa (show Ad g=g.S.length - 1 from hnn);clear h hb hr hrow hR;rw[← hlen]at RN;clear hlen hnn hne hsz hsT;have nl:=CD (en.length:Int);have nl2:((en.length:Int)!=(en.length:Int))=false:=by simp
 go_enter Tryz.func80,Tryz.ntmps80;go_wp2_with (first
  | (go_at_call 96;refine RR.out.mono ?_;rintro e w1 ⟨rfl,hb1⟩;have HB1:=Aa (HB.out.trans (hb1.mono HB.out.size));have HX1:=Aa (Ah hb1 X0.out);obtain⟨c0,c1,c2⟩:=DY HX1.out;clear hb1)
  | (go_at_call 97;refine(RN.out _ HB1.out).mono ?_;rintro e w2 ⟨rfl,hb2⟩;have HB2:=Aa (HB1.out.trans (hb2.mono HB1.out.size));have HX2:=Aa (Ah hb2 HX1.out);clear hb2))
 clear c0 c1 c2;go_loopg [31] en.length (fun fu c wr=>∃i:Nat,i+fu=en.length∧c=.int .i64 i∧(∀j,j<i→((en.getD j []).length:Int)=ag∧∀e∈AR g (j:Int),e.2.1<ag∧(en.getD j []).getD e.2.1.toNat false=true)∧Below w2.heap.size w2 wr)
 case atStart=>exact⟨0,by omega,rfl,fun j hj=>by omega,Ak _ _⟩
 case round=>
  obtain⟨i,hi,rfl,hall,hbr⟩:=hrel;by_cases hlt:i<en.length
  ·obtain⟨b,off,uu,rfl,c1,r1⟩:=HRW.out i hlt;have HBW:=Aa (HB2.out.trans (hbr.mono HB2.out.size));obtain⟨ra,rc,rfl,hrb⟩:=r1;have y1:=Af HBW.out c1;have z1:(i:Int)<(en.length:Int):=by omega
   have HAL:=Aa hall;have HNI:=Aa (HNR.out i hlt);have HNEI:=Aa (HNE.out i);have HNX:Hid ((((en.getD i []).length:Int)=ag∧∀e∈AR g (i:Int),e.2.1<ag∧(en.getD i []).getD e.2.1.toNat false=true)→∀j,j<i+1→((en.getD j []).length:Int)=ag∧∀e∈AR g (j:Int),e.2.1<ag∧(en.getD j []).getD e.2.1.toNat false=true):=Aa (fun hne j hj=>by
    by_cases e:j=i
    ·rw[e];exact hne
    ·exact HAL.out j (by omega))
   have HRB:=Aa hrb;have hx2:=Ah hbr HX2.out;obtain⟨c0,c1',c2⟩:=DY hx2;have HO:=Aa (RO.out wr HBW.out (i:Int));have hol:=OLEN.out (i:Int);have HOE:=Aa (OE.out i);have HBR:=Aa hbr;clear c1 hall hrb hx2 hbr;generalize AR g (i:Int)=el at*;obtain⟨row,hrow⟩:∃r,en.getD i []=r:=⟨_,rfl⟩;rw[hrow]at HNI HNEI HNX HRB y1
   try rw[hrow]
   clear hrow;by_cases hrl:(row.length:Int)=ag
   ·have n3:((row.length:Int)!=ag)=false:=by rw[hrl];simp
    go_wp2_with (go_at_call 83;refine HO.out.mono ?_;rintro e w3 ⟨rv,rfl,hE,hb3⟩;obtain⟨ea,ec,rfl,hE⟩:=hE;have HED:=Aa hE;have HB3:=Aa (HBR.out.trans (hb3.mono HBR.out.size));clear hb3 hE)
    clear c0 c1' c2 y1;go_loopg [44] el.length (fun fu c wr=>∃r:Nat,r+fu=el.length∧c=.int .i64 r∧(∀q,q<r→(el.getD q (0,0,0)).2.1<ag∧row.getD (el.getD q (0,0,0)).2.1.toNat false=true)∧Below w3.heap.size w3 wr)
    case atStart=>exact⟨0,by omega,rfl,fun j hj=>by omega,Ak _ _⟩
    case round=>
     obtain⟨r,hr,rfl,hall2,hbr2⟩:=hrel;by_cases hlt3:r<el.length
     ·obtain⟨b3,o3,rfl,e1,e2,e3⟩:=HED.out r hlt3;obtain⟨y1,y2,y3⟩:=JN hbr2 e1 e2 e3;have z3:(r:Int)<(el.length:Int):=by omega
      have hin:el.getD r (0,0,0)∈el:=by rw[AM,Bf hlt3];simp
      have hm:=(HOE.out _ hin).1;have HBAD:=Aa (HNEI.out _ hin);have HAL2:=Aa hall2;have HNX2:Hid (((el.getD r (0,0,0)).2.1<ag∧row.getD (el.getD r (0,0,0)).2.1.toNat false=true)→∀q,q<r+1→(el.getD q (0,0,0)).2.1<ag∧row.getD (el.getD q (0,0,0)).2.1.toNat false=true):=Aa (fun hne j hj=>by
       by_cases e:j=r
       ·rw[e];exact hne
       ·exact HAL2.out j (by omega))
      clear e1 e2 e3 hin hall2;generalize el.getD r (0,0,0)=ed at*;obtain⟨ex,ey,ez⟩:=ed;obtain⟨h1,h2,h3,h4,h5⟩:=hm;simp only at h1 h2 h3 h4 h5 y1 y2 y3 HBAD HNX2;obtain⟨q,rfl⟩:∃q:Nat,ey=(q:Int):=⟨ey.toNat,by omega⟩;simp only[BT]at HBAD HNX2;have hb4:=hbr2.trans ((Ae wr (.cells #[.int .i64 ex,.int .i64 (q:Nat),.int .i64 ez] 54)).mono hbr2.size);have HB4:=Aa hb4;have HB5:=Aa (HB2.out.trans ((HB3.out.trans (hb4.mono HB3.out.size)).mono HB2.out.size));clear hb4 hbr2;by_cases hq:(q:Int)<ag
      ·obtain⟨b6,o6,rfl,d6⟩:=HRB.out q (by omega);have y6:=Af HB5.out d6;have z4:(q:Int)<(row.length:Int):=by omega
       clear d6;cases hx:row.getD q false
       ·have E:=Aa (HBAD.out (fun z=>by rw[hx]at z;exact absurd z.2 (by simp)));rw[hx]at y6;clear hx;go_wp2_with fail
        go_ret;exact⟨by rw[E.out];rfl,HB5.out⟩
       ·have E:=Aa (HNX2.out ⟨hq,hx⟩);rw[hx]at y6;clear hx;go_wp2_with fail
        go_roundg (el.length - (r+1))
        case measure=>omega
        case rel=>exact⟨r+1,by omega,by simp,E.out,HB4.out⟩
      ·have E:=Aa (HBAD.out (fun z=>hq z.1));have hq2:ag≤(q:Int):=by omega
       go_wp2_with fail
       go_ret;exact⟨by rw[E.out];rfl,HB5.out⟩
     ·obtain rfl:r=el.length:=by omega
      have hne:∀e∈el,e.2.1<ag∧row.getD e.2.1.toNat false=true:=fun e he=>by
       obtain⟨j,hj,rfl⟩:=Ey he;have:=hall2 j hj;rwa [AM,Bf hj]at this
      have HNE2:=Aa (HNX.out ⟨hrl,hne⟩);go_wp2_with fail
      go_roundg (en.length - (i+1))
      case measure=>omega
      case rel=>exact⟨i+1,by omega,by simp,HNE2.out,HB3.out.trans (hbr2.mono HB3.out.size)⟩
   ·have E:=Aa (HNI.out hrl);have n3:((row.length:Int)!=ag)=true:=by rw[bne_iff_ne];exact hrl
    go_wp2_with fail
    go_ret;exact⟨by rw[E.out];rfl,HBW.out⟩
  ·obtain rfl:i=en.length:=by omega
   have E:=Aa (HRT.out hall);go_wp2_with fail
   go_ret;exact⟨by rw[E.out];rfl,HB2.out.trans (hbr.mono HB2.out.size)⟩
structure YZ(M:Nat)(sp:Nat→Nat→Bool):Prop where
 enters:Enters Tryz.prog M
 ok:∀(a b:Nat) (w:World),Calls Tryz.prog M #[.int .i64 (a:Nat),.int .i64 (b:Nat)] w fun en w'=>en=.returned (.bool (sp a b))∧Below w.heap.size w w'
def GQ(a b:Nat):Bool:=decide (a=b)
def Ga(a _b:Nat):Bool:=decide (0<a)
def Hp(M:Nat):Value:=.agg #[.func (.func M) #[] #[]]
theorem cA:YZ 94 GQ:=by
 refine⟨enters_of Tryz.func94 (by kernel_rfl) rfl,?_⟩;intro a b w;go_enter Tryz.func94,Tryz.ntmps94;go_wp2_with fail
 go_ret;refine⟨?_,Ak _ _⟩;show Ending.returned (Value.bool ((a:Int)==(b:Int)))=_;have:((a:Int)==(b:Int))=GQ a b:=by
  unfold GQ;by_cases h:a=b
  ·simp[h]
  ·have h2:¬(a:Int)=(b:Int):=by omega
   simp[h,h2]
 rw[this]
theorem VE:YZ 95 Ga:=by
 refine⟨enters_of Tryz.func95 (by kernel_rfl) rfl,?_⟩;intro a b w;go_enter Tryz.func95,Tryz.ntmps95;go_wp2_with fail
 go_ret;exact⟨by simp[Ga],Ak _ _⟩
theorem Xf(w:World):Calls Tryz.prog 79 #[.int .i64 1] w fun e w'=>e=.returned (.tuple #[Hp 94,.bool true])∧Below w.heap.size w w':=by
 have HB:=Aa (Ae w (.cells #[.func (.func 94) #[] #[]] 126));go_enter Tryz.func79,Tryz.ntmps79;go_wp2_with fail
 refine Bd (v:=.tuple #[Hp 94,.bool true]) (by simp[results,Tryz.results79,go_sem,Hp]) rfl ?_;exact⟨rfl,HB.out⟩
theorem Se(w:World):Calls Tryz.prog 79 #[.int .i64 2] w fun e w'=>e=.returned (.tuple #[Hp 95,.bool true])∧Below w.heap.size w w':=by
 have HB:=Aa (Ae w (.cells #[.func (.func 95) #[] #[]] 126));go_enter Tryz.func79,Tryz.ntmps79;go_wp2_with fail
 refine Bd (v:=.tuple #[Hp 95,.bool true]) (by simp[results,Tryz.results79,go_sem,Hp]) rfl ?_;exact⟨rfl,HB.out⟩
def Eu(en:List (List Bool))(part:List Int)(a k:Nat):Nat:=((part.take k).filter (fun i=>(en.getD i.toNat []).getD a false)).length
theorem PJ{en:List (List Bool)}{part:List Int}{a k:Nat}(h:k<part.length):Eu en part a (k+1)=if(en.getD (part.getD k 0).toNat []).getD a false=true then Eu en part a k+1 else Eu en part a k:=by
 have e:part.take (k+1)=part.take k++[part.getD k 0]:=by
  rw[List.take_add_one,AM,Bf h];rfl
 unfold Eu;rw[e,List.filter_append,Bs];generalize part.getD k 0=p;by_cases hx:(en.getD p.toNat []).getD a false=true
 ·rw[if_pos hx,List.filter_cons_of_pos (p:=fun i:Int=>(en.getD i.toNat []).getD a false) hx];rfl
 ·rw[if_neg hx,List.filter_cons_of_neg (p:=fun i:Int=>(en.getD i.toNat []).getD a false) hx];rfl
theorem Kx(en:List (List Bool))(part:List Int)(a k:Nat):Eu en part a k≤k:=by
 unfold Eu;have h1:=List.length_filter_le (fun i:Int=>(en.getD i.toNat []).getD a false) (part.take k);have h2:(part.take k).length≤k:=by rw[List.length_take];exact Nat.min_le_left _ _
 omega
def JW(en:List (List Bool))(part:List Int)(a:Nat):Nat:=Eu en part a part.length
def OA(g:Gr)(en:List (List Bool))(sp:Nat→Nat→Bool)(part:List Int)(a:Nat):Bool:=!FC g part a&&sp (JW en part a) part.length
def TD(g:Gr)(en:List (List Bool))(sp:Nat→Nat→Bool)(part:List Int)(k:Nat):List Int:=((List.range k).filter (OA g en sp part)).map (fun k:Nat=>(k:Int))
theorem Xv(g:Gr)(en:List (List Bool))(sp:Nat→Nat→Bool)(part:List Int)(k:Nat):TD g en sp part (k+1)=if OA g en sp part k=true then TD g en sp part k++[(k:Int)] else TD g en sp part k:=by
 unfold TD;rw[List.range_succ,List.filter_append];by_cases hx:OA g en sp part k=true
 ·rw[if_pos hx,List.filter_cons_of_pos hx];simp
 ·rw[if_neg hx,List.filter_cons_of_neg hx];simp
theorem UX(g:Gr)(en:List (List Bool))(sp:Nat→Nat→Bool)(part:List Int)(k:Nat):(TD g en sp part k).length≤k:=by
 have:=List.length_filter_le (OA g en sp part) (List.range k);simpa[TD]using this
def DC(w:World)(l:List Int)(e:Ending)(w':World):Prop:=∃v,e=.returned v∧Am w' v l∧Below w.heap.size w w'
theorem Ev(w:World)(o1 o2:Obj):((w.alloc o1).alloc o2).heap[w.heap.size+1]?=some o2:=by
 have:=Ar (w.alloc o1) o2;rwa [show(w.alloc o1).heap.size=w.heap.size+1 by simp]at this
theorem Dq{w w':World}{base:Nat}{e:TypeId}{size:Nat}{v:Value}{n:Nat}{xs:List Value}(h:w.ownsRow base e size v n xs)(hb:Below w.heap.size w w'):w'.ownsRow base e size v n xs:=Al (F:=fun _=>False) h (Df hb _) (fun _ _=>id)
def eE(v u:Value)(A:Nat)(tv:Value):Prop:=∃s a t,v=.agg #[s,a,t]∧tv=.agg #[s,a,t,u,.int .i64 (A:Nat)]
theorem Re {M:Nat} {sp:Nat→Nat→Bool} (T:YZ M sp) (v u pv tv:Value) (g:Gr) (en:List (List Bool)) (A:Nat) (part:List Int) (w:World) (ht:eE v u A tv) (h:Ao w v g) (hu:AO w u en) (hp:Am w pv part) (hA:A≤100)
 (hrows:∀i,i<en.length→(en.getD i []).length=A) (hin:∀x∈part,0≤x∧x<(en.length:Int)) (hel:en.length≤1000000) (hl:part.length≤1000000) (hw:∀e∈Av g,(Lit.int .i64 e.2.1).wf=true):
 Calls Tryz.prog 103 #[tv,Hp M,pv] w (DC w (TD g en sp part A)):=by
 obtain⟨i0,hi0,hz0,hz1,hz2⟩:=CE (Tryz.info3);obtain⟨sa,aa,ta,sc,ac,tc,rfl,-⟩:=h.var;have HU:=Aa hu;obtain⟨ua,uc,rfl,hrow⟩:=hu;obtain⟨s0,a0,t0,e0,rfl⟩:=ht;simp only[Value.agg.injEq,Array.mk.injEq,List.cons.injEq,and_true]at e0;obtain⟨rfl,rfl,rfl⟩:=e0;have hwi:∀x∈part,(Lit.int .i64 x).wf=true:=fun x hx=>WalkArith.wf_i64 (by have:=hin x hx;omega);have hb0:=Ae w (.cells #[.slice sa g.S.length sc,.slice aa g.A.length ac,.slice ta g.T.length tc,.slice ua en.length uc,.int .i64 (A:Nat)] 130);have hb:=hb0.trans ((Ae (w.alloc (.cells #[.slice sa g.S.length sc,.slice aa g.A.length ac,.slice ta g.T.length tc,.slice ua en.length uc,.int .i64 (A:Nat)] 130)) (.cells #[.func (.func M) #[] #[]] 126)).mono hb0.size);have AC:=Aa (Wi _ pv g part _ (h.below hb) (hp.below hb) hwi hl hw);have HB:=Aa hb;have X0:=Aa (Ah (Ae (w.alloc (.cells #[.slice sa g.S.length sc,.slice aa g.A.length ac,.slice ta g.T.length tc,.slice ua en.length uc,.int .i64 (A:Nat)] 130)) (.cells #[.func (.func M) #[] #[]] 126)) (Ar w (.cells #[.slice sa g.S.length sc,.slice aa g.A.length ac,.slice ta g.T.length tc,.slice ua en.length uc,.int .i64 (A:Nat)] 130)));have X1:=Aa (Ev w (.cells #[.slice sa g.S.length sc,.slice aa g.A.length ac,.slice ta g.T.length tc,.slice ua en.length uc,.int .i64 (A:Nat)] 130) (.cells #[.func (.func M) #[] #[]] 126));have HRW:=Aa hrow;have HRL:=Aa hrows;have HIN:=Aa (fun k (hk:k<part.length)=>hin _ (Ch hk));have KS:=Aa (fun a k (hk:k<part.length)=>PJ (en:=en) (a:=a) hk);have KL:=Aa (fun a k=>Kx en part a k);have K0:Hid (∀a,Eu en part a 0=0):=Aa (fun a=>rfl);have SS:=Aa (fun k=>Xv g en sp part k);have SL:=Aa (fun k=>UX g en sp part k);have S0:Hid (TD g en sp part 0=[]):=Aa rfl;have SB:Hid (∀a:Nat,OA g en sp part a=(!FC g part a&&sp (Eu en part a part.length) part.length)):=Aa (fun a=>rfl);have AB:=Aa (fun a:Int=>Km (g:=g) (l:=part) (a:=a));have TOK:=Aa T.ok;have hE':∀(args:Array Value) (w:World),(callFunc M args).run Tryz.prog w=.ok (.enter M args) w:=T.enters;obtain⟨pa,pc,rfl,hpc⟩:=hp;have HP:=Aa hpc;clear h hb hb0 hin hrow hwi hw hrows T hpc;generalize Eu en part=CK at*;generalize TD g en sp part=SK at*;generalize OA g en sp part=SBF at*;generalize FC g part=AF at*;generalize YG g part=AP at*;obtain⟨n,hnn⟩:∃n,part.length=n:=⟨_,rfl⟩;rw[hnn]at HP hl KS HIN SB AC ⊢;clear hnn;obtain⟨NB,hNB⟩:∃z,n*1000000=z:=⟨_,rfl⟩;rw[hNB]at AC;clear hNB;unfold Hp;go_enter Tryz.func103,Tryz.ntmps103;go_wp2_with (go_at_call 116;refine AC.out.mono ?_;rintro e w1 ⟨mb,m1,s1,N1,f1,rfl,hM,hF,hN,hmb,hb1⟩;have HM:=Aa hM;have HF:=Aa hF;have HB1:=Aa (HB.out.trans (hb1.mono HB.out.size));have Y0:=Aa (Ah hb1 X0.out);have Y1:=Aa (Ah hb1 X1.out);have c4:=Ab Y0.out 4 _ rfl;clear hM hF hN hmb hb1)
 go_loopg [8,19] A (fun fu lv c wr=>∃k:Nat,k+fu=A∧c=.int .i64 k∧Hid (Below w1.heap.size w1 wr)∧Hid (wr.ownsRow w1.heap.size 3 1 lv (SK k).length ((SK k).map (Value.int .i64))))
 case atStart=>exact⟨0,by omega,rfl,Aa (Ak _ _),Aa (by rw[S0.out];exact CO _ _ _ _)⟩
 case round=>
  clear X0 X1;obtain⟨k,hk,rfl,HB2,HO⟩:=hrel;obtain⟨W,rfl⟩:∃z:World,z=wr:=⟨_,rfl⟩;by_cases hlt:k<A
  ·have z1:(k:Int)<(A:Int):=by omega
   have HBW:=Aa (HB1.out.trans (HB2.out.mono HB1.out.size));go_wp2_with fail
   go_loopg [10,24] n (fun fu nv c wr=>∃j:Nat,j+fu=n∧c=.int .i64 j∧nv=.int .i64 (CK k j:Nat)∧W=wr)
   case atStart=>exact⟨0,by omega,rfl,by rw[K0.out];rfl,rfl⟩
   case round=>
    obtain⟨j,hj,rfl,rfl,rfl⟩:=hrel;by_cases hlt2:j<n
    ·have z2:(j:Int)<(n:Int):=by omega
     obtain⟨b1,o1,rfl,d1⟩:=HP.out j hlt2;have hi:=HIN.out j hlt2;have hks:=KS.out k j hlt2;have hkl:=KL.out k j;have y1:=Af HBW.out d1;clear d1;generalize part.getD j 0=p at*;obtain⟨q,rfl⟩:∃q:Nat,p=(q:Int):=⟨p.toNat,by omega⟩;rw[BT]at hks;have hq:q<en.length:=by omega
     have z3:(q:Int)<(en.length:Int):=by omega
     obtain⟨b2,o2,uu,rfl,c2,r2⟩:=HRW.out q hq;have hrl:=HRL.out q hq;obtain⟨ra,rc,rfl,r2⟩:=r2;rw[hrl]at r2 c2;obtain⟨b3,o3,rfl,d3⟩:=r2 k hlt;have y2:=Af HBW.out c2;have y3:=Af HBW.out d3;have hx0:=Ah HB2.out Y0.out;have c3:=Ab hx0 3 _ rfl;have HKS:=Aa hks;clear hks c2 d3 r2 hx0 hrl hi;cases hx:(en.getD q []).getD k false
     ·rw[hx]at y3 HKS;have E:=Aa (show CK k (j+1)=CK k j by rw[HKS.out];rfl);clear hx;go_wp2_with fail
      go_roundg (n - (j+1))
      case measure=>omega
      case rel=>exact⟨j+1,by omega,by simp,by rw[E.out],rfl⟩
     ·rw[hx]at y3 HKS;have E:=Aa (show CK k (j+1)=CK k j+1 by rw[HKS.out];rfl);clear hx;have hwr:IntKind.i64.wrap ((CK k j:Int)+1)=(CK k j:Int)+1:=DS _ (by omega);go_wp2_with fail
      go_roundg (n - (j+1))
      case measure=>omega
      case rel=>exact⟨j+1,by omega,by simp,by rw[E.out];simp,rfl⟩
    ·obtain rfl:j=n:=by omega
     have HKW:Hid ((Lit.int .i64 ((k:Nat):Int)).wf=true):=Aa (WalkArith.wf_i64 (by omega));have HM2:=Aa (HM.out.more HB2.out);have hf:=HF.out (k:Int);have HSS:=Aa (SS.out k);have hsb:=SB.out k;have hsl:=SL.out k;obtain⟨la,lc,rfl⟩:=CQ HO.out;obtain⟨row,hrow⟩:∃r,SK k=r:=⟨_,rfl⟩;rw[hrow]at HSS HO hsl
     try rw[hrow]
     have HROW:=Aa hrow;clear hrow;cases hac:AF (k:Int)
     ·have hz:(f1 (k:Int)).getD 0=0:=by
       have h3:¬0<(f1 (k:Int)).getD 0:=fun q=>by rw[(AB.out _).2 (hf.2.2.1 q)]at hac;cases hac
       omega
      rw[hac]at hsb;have hx0:=Ah HB2.out Y1.out;have c3:=Ab hx0 0 _ rfl;have HC:=Aa (TOK.out (CK k j) j W);clear hac hf hx0;cases hs:sp (CK k j) j
      ·rw[hs]at hsb HC;have E:=Aa (show SK (k+1)=row by rw[HSS.out,hsb];rfl);clear hsb hs;go_wp2_with (first
        | (at_lookup;refine Gg Tryz.underlying161 HM2.out rfl rfl rfl rfl HKW.out ?_)
        | (go_at_fn M;refine HC.out.mono ?_;rintro en w2 ⟨rfl,hb2⟩;have HB3:=Aa hb2;clear hb2))
       go_roundg (A - (k+1))
       case measure=>omega
       case rel=>exact⟨k+1,by omega,by simp,Aa (HB2.out.trans (HB3.out.mono HB2.out.size)),Aa (by rw[E.out];exact Dq HO.out HB3.out)⟩
      ·rw[hs]at hsb HC;have E:=Aa (show SK (k+1)=row++[(k:Int)] by rw[HSS.out,hsb];rfl);clear hsb hs;go_wp2_with (first
        | (at_lookup;refine Gg Tryz.underlying161 HM2.out rfl rfl rfl rfl HKW.out ?_)
        | (go_at_fn M;refine HC.out.mono ?_;rintro en w2 ⟨rfl,hb2⟩;have HB3:=Aa (HB2.out.trans (hb2.mono HB2.out.size));have HO2:=Aa (Dq HO.out hb2);clear hb2)
        | (at_builtin;refine wpList_append_lies (w2.alloc (.cells #[.int .i64 k] 3)) rfl (.tmp 51) (.tmp 53) 22 rfl w1.heap.size 3 i0 (.int .i64 0) 1 8 Tryz.underlying22 hi0 hz0 hz1 hz2 rfl (by decide) (.slice la row.length lc) row.length _ rfl (HO2.out.alloc _) ⟨w2.heap.size,0,none⟩ 1 1 [.int .i64 k] rfl rfl (World.news_of_block (Ar _ _)) (by simp[Value.oneCell']) (by omega) (by unfold maxLen;omega) (by omega) (by have:=HB3.out.size;simp;omega) (w2.heap.size+1) (by simp) ?_;intro g3 cap3 w3 hown3 hgr3 hor3 hlt3;have HO3:=Aa hown3;have HB4:=Aa (Below.own HB3.out HO2.out hgr3);clear hown3 hgr3 hor3))
       go_roundg (A - (k+1))
       case measure=>omega
       case rel=>exact⟨k+1,by omega,by simp,HB4,Aa (by rw[E.out,Bs,Ec];exact HO3.out)⟩
     ·have hz:0<(f1 (k:Int)).getD 0:=hf.2.2.2 ((AB.out _).1 hac);have hz2:¬(f1 (k:Int)).getD 0=0:=by omega
      have hz3:((f1 (k:Int)).getD 0==0)=false:=by simp[hz2]
      rw[hac]at hsb;have E:=Aa (show SK (k+1)=row by rw[HSS.out,hsb];rfl);clear hac hf hsb;go_wp2_with (first
       | (at_lookup;refine Gg Tryz.underlying161 HM2.out rfl rfl rfl rfl HKW.out ?_))
      go_roundg (A - (k+1))
      case measure=>omega
      case rel=>exact⟨k+1,by omega,by simp,HB2,Aa (by rw[E.out];exact HO.out)⟩
  ·obtain rfl:k=A:=by omega
   go_wp2_with fail
   go_ret;exact⟨_,rfl,DU HO.out,HB1.out.trans (HB2.out.mono HB1.out.size)⟩
theorem Qa (u pv:Value) (en:List (List Bool)) (A k:Nat) (part:List Int) (w:World) (hu:AO w u en) (hp:Am w pv part)
 (hrows:∀i,i<en.length→(en.getD i []).length=A) (hk:k<A) (hin:∀x∈part,0≤x∧x<(en.length:Int)) (_hel:en.length≤1000000) (hl:part.length≤1000000):
 Calls Tryz.prog 73 #[u,pv,.int .i64 (k:Nat)] w fun e w'=>e=.returned (.int .i64 (JW en part k:Nat))∧Below w.heap.size w w':=by
 obtain⟨ua,uc,rfl,hrow⟩:=hu;have HRW:=Aa hrow;have HRL:=Aa hrows;have HIN:=Aa (fun k (hk:k<part.length)=>hin _ (Ch hk));have KS:=Aa (fun j (hj:j<part.length)=>PJ (en:=en) (a:=k) hj);have KL:=Aa (fun j=>Kx en part k j);have K0:Hid (Eu en part k 0=0):=Aa rfl;obtain⟨pa,pc,rfl,hpc⟩:=hp;have HP:=Aa hpc;unfold JW;clear hin hrow hrows hpc;generalize Eu en part k=CK at*;obtain⟨n,hnn⟩:∃n,part.length=n:=⟨_,rfl⟩;rw[hnn]at HP hl KS HIN ⊢;clear hnn;go_enter Tryz.func73,Tryz.ntmps73;go_wp2_with fail
 go_loopg [7,8] n (fun fu nv c wr=>∃j:Nat,j+fu=n∧c=.int .i64 j∧nv=.int .i64 (CK j:Nat)∧Below w.heap.size w wr)
 case atStart=>exact⟨0,by omega,rfl,by rw[K0.out];rfl,Ak _ _⟩
 case round=>
  obtain⟨j,hj,rfl,rfl,hbr⟩:=hrel;by_cases hlt2:j<n
  ·have z2:(j:Int)<(n:Int):=by omega
   obtain⟨b1,o1,rfl,d1⟩:=HP.out j hlt2;have hi:=HIN.out j hlt2;have hks:=KS.out j hlt2;have hkl:=KL.out j;have y1:=Af hbr d1;clear d1;generalize part.getD j 0=p at*;obtain⟨q,rfl⟩:∃q:Nat,p=(q:Int):=⟨p.toNat,by omega⟩;rw[BT]at hks;have hq:q<en.length:=by omega
   have z3:(q:Int)<(en.length:Int):=by omega
   obtain⟨b2,o2,uu,rfl,c2,r2⟩:=HRW.out q hq;have hrl:=HRL.out q hq;obtain⟨ra,rc,rfl,r2⟩:=r2;rw[hrl]at r2 c2;obtain⟨b3,o3,rfl,d3⟩:=r2 k hk;have y2:=Af hbr c2;have y3:=Af hbr d3;have z4:(k:Int)<(A:Int):=by omega
   have HKS:=Aa hks;have HBR:=Aa hbr;clear hks c2 d3 r2 hrl hi hbr;cases hx:(en.getD q []).getD k false
   ·rw[hx]at y3 HKS;have E:=Aa (show CK (j+1)=CK j by rw[HKS.out];rfl);clear hx;go_wp2_with fail
    (try (refine AI (by kernel_rfl) (by kernel_rfl) ?_;(repeat still_step);refine wpStill_nil ?_;go_wp2_with fail))
    go_roundg (n - (j+1))
    case measure=>omega
    case rel=>exact⟨j+1,by omega,by simp,by rw[E.out],by first | exact HBR.out | exact HBR.out.drew⟩
   ·rw[hx]at y3 HKS;have E:=Aa (show CK (j+1)=CK j+1 by rw[HKS.out];rfl);clear hx;have hwr:IntKind.i64.wrap ((CK j:Int)+1)=(CK j:Int)+1:=DS _ (by omega);go_wp2_with fail
    (try (refine AI (by kernel_rfl) (by kernel_rfl) ?_;(repeat still_step);refine wpStill_nil ?_;go_wp2_with fail))
    go_roundg (n - (j+1))
    case measure=>omega
    case rel=>exact⟨j+1,by omega,by simp,by rw[E.out];simp,by first | exact HBR.out | exact HBR.out.drew⟩
  ·obtain rfl:j=n:=by omega
   go_wp2_with fail
   go_ret;exact⟨rfl,hbr⟩
noncomputable def Bb(g:Gr)(en:List (List Bool))(sp:Nat→Nat→Bool)(A:Nat)(part:List Int):Bool:=CV g part&&decide ((TD g en sp part A).length=0)
theorem Je{g:Gr}{en:List (List Bool)}{sp:Nat→Nat→Bool}{part:List Int}{A:Nat}:(TD g en sp part A).length=0↔∀a,a<A→OA g en sp part a=false:=by
 unfold TD;rw[Fi,List.length_eq_zero_iff,List.filter_eq_nil_iff];constructor
 ·intro h a ha;have:=h a (Cg.2 ha);cases hh:OA g en sp part a
  ·rfl
  ·exact absurd hh this
 ·intro h a ha;rw[h a (Cg.1 ha)];simp
theorem bN {M:Nat} {sp:Nat→Nat→Bool} (T:YZ M sp) (v u pv tv:Value) (g:Gr) (en:List (List Bool)) (A:Nat) (part:List Int) (w:World) (ht:eE v u A tv) (h:Ao w v g) (hu:AO w u en) (hp:Am w pv part) (hA:A≤100)
 (hrows:∀i,i<en.length→(en.getD i []).length=A) (hin:∀x∈part,0≤x∧x<(en.length:Int)) (hel:en.length≤1000000) (hl:part.length≤1000000) (hw:∀e∈Av g,(Lit.int .i64 e.2.1).wf=true):
 Calls Tryz.prog 82 #[tv,Hp M,pv] w fun e w'=>e=.returned (.bool (Bb g en sp A part))∧Below w.heap.size w w':=by
 obtain⟨sa,aa,ta,sc,ac,tc,rfl,-⟩:=h.var;have HT:=Aa (fun(w':World) (hb:Below w.heap.size w w')=>Re T _ u pv tv g en A part w' ht (h.below hb) (hu.below hb) (hp.below hb) hA hrows hin hel hl hw);have HU:=Aa hu;obtain⟨ua,uc,rfl,-⟩:=hu;obtain⟨s0,a0,t0,e0,rfl⟩:=ht;simp only[Value.agg.injEq,Array.mk.injEq,List.cons.injEq,and_true]at e0;obtain⟨rfl,rfl,rfl⟩:=e0;have hwi:∀x∈part,(Lit.int .i64 x).wf=true:=fun x hx=>WalkArith.wf_i64 (by have:=hin x hx;omega);have hb0:=Ae w (.cells #[.slice sa g.S.length sc,.slice aa g.A.length ac,.slice ta g.T.length tc,.slice ua en.length uc,.int .i64 (A:Nat)] 130);have hb:=hb0.trans ((Ae (w.alloc (.cells #[.slice sa g.S.length sc,.slice aa g.A.length ac,.slice ta g.T.length tc,.slice ua en.length uc,.int .i64 (A:Nat)] 130)) (.cells #[.func (.func M) #[] #[]] 126)).mono hb0.size);have HC:=Aa (dP _ pv g part _ (h.below hb) (hp.below hb) hwi hl);have HB:=Aa hb;have X0:=Aa (Ah (Ae (w.alloc (.cells #[.slice sa g.S.length sc,.slice aa g.A.length ac,.slice ta g.T.length tc,.slice ua en.length uc,.int .i64 (A:Nat)] 130)) (.cells #[.func (.func M) #[] #[]] 126)) (Ar w (.cells #[.slice sa g.S.length sc,.slice aa g.A.length ac,.slice ta g.T.length tc,.slice ua en.length uc,.int .i64 (A:Nat)] 130)));have X1:=Aa (Ev w (.cells #[.slice sa g.S.length sc,.slice aa g.A.length ac,.slice ta g.T.length tc,.slice ua en.length uc,.int .i64 (A:Nat)] 130) (.cells #[.func (.func M) #[] #[]] 126));obtain⟨pa,pc,rfl,-⟩:=hp;have SL:=UX g en sp part A;unfold Hp at HT ⊢;unfold Bb;clear h hb hb0 hin hwi hw hrows T;generalize TD g en sp part A=SK at*;cases hc:CV g part
 ·rw[hc]at HC;clear hc;go_enter Tryz.func82,Tryz.ntmps82;go_wp2_with (go_at_call 102;refine HC.out.mono ?_;rintro e w1 ⟨rfl,hb1⟩;have HB1:=Aa (HB.out.trans (hb1.mono HB.out.size));clear hb1)
  go_ret;exact⟨rfl,HB1.out⟩
 ·rw[hc]at HC;clear hc;by_cases hs:SK.length=0
  ·rw[Ck hs];go_enter Tryz.func82,Tryz.ntmps82;go_wp2_with (first
    | (go_at_call 102;refine HC.out.mono ?_;rintro e w1 ⟨rfl,hb1⟩;have HB1:=Aa (HB.out.trans (hb1.mono HB.out.size));have y0:=Ah hb1 X0.out;have y1:=Ah hb1 X1.out;obtain⟨c0,c1,c2,c3,c4⟩:=gI y0;have c5:=Ab y1 0 _ rfl;clear hb1 y0 y1)
    | (go_at_call 103;refine(HT.out _ HB1.out).mono ?_;rintro e w2 ⟨rv,rfl,⟨ra,rc,rfl,-⟩,hb2⟩;have HB2:=Aa (HB1.out.trans (hb2.mono HB1.out.size));clear hb2))
   go_ret;exact⟨by simp,HB2.out⟩
  ·rw[Cj hs];have hs2:((SK.length:Int)==0)=false:=by simp[hs]
   go_enter Tryz.func82,Tryz.ntmps82;go_wp2_with (first
    | (go_at_call 102;refine HC.out.mono ?_;rintro e w1 ⟨rfl,hb1⟩;have HB1:=Aa (HB.out.trans (hb1.mono HB.out.size));have y0:=Ah hb1 X0.out;have y1:=Ah hb1 X1.out;obtain⟨c0,c1,c2,c3,c4⟩:=gI y0;have c5:=Ab y1 0 _ rfl;clear hb1 y0 y1)
    | (go_at_call 103;refine(HT.out _ HB1.out).mono ?_;rintro e w2 ⟨rv,rfl,⟨ra,rc,rfl,-⟩,hb2⟩;have HB2:=Aa (HB1.out.trans (hb2.mono HB1.out.size));clear hb2))
   go_ret;exact⟨by simp,HB2.out⟩
theorem JF{k A:Nat}{p:Nat→Bool}(hk:k<A)(h:p k=true):¬∀a,a<A→p a=false:=fun q=>by rw[q k hk]at h;cases h
theorem Ok (v u pv:Value) (g:Gr) (en:List (List Bool)) (A:Nat) (part:List Int) (w:World) (h:Ao w v g) (hu:AO w u en) (hp:Am w pv part) (hA:A≤100)
 (hrows:∀i,i<en.length→(en.getD i []).length=A) (hin:∀x∈part,0≤x∧x<(en.length:Int)) (hel:en.length≤1000000) (hl:part.length≤1000000):
 Calls Tryz.prog 44 #[v,u,.int .i64 (A:Nat),.int .i64 1,pv] w fun e w'=>e=.returned (.bool (Bb g en GQ A part))∧Below w.heap.size w w':=by
 obtain⟨sa,aa,ta,sc,ac,tc,rfl,-⟩:=h.var;have hb:=Ae w (.cells #[.slice sa g.S.length sc,.slice aa g.A.length ac,.slice ta g.T.length tc] 32);have HC:=Aa (fun(w':World) (hb:Below w.heap.size w w') (k:Nat) (hk:k<A)=>Qa u pv en A k part w' (hu.below hb) (hp.below hb) hrows hk hin hel hl);have HX:=Aa (fun(w':World) (hb:Below w.heap.size w w') (k:Nat)=>NQ _ pv g part (k:Int) w' (h.below hb) (hp.below hb) hl);have HY:=Aa (fun(w':World) (hb:Below w.heap.size w w')=>QI _ pv g part w' (h.below hb) (hp.below hb) hl);have HB:=Aa hb;have X0:=Aa (Ar w (.cells #[.slice sa g.S.length sc,.slice aa g.A.length ac,.slice ta g.T.length tc] 32));have SB:Hid (∀a:Nat,OA g en GQ part a=(!FC g part a&&GQ (JW en part a) part.length)):=Aa (fun a=>rfl);have KL:=Aa (fun k=>Kx en part k part.length);obtain⟨pa,pc,rfl,-⟩:=hp;obtain⟨ua,uc,rfl,-⟩:=hu;have FY:Hid ((∀a,a<A→OA g en GQ part a=false)→Bb g en GQ A part=CV g part):=Aa (fun hh=>by unfold Bb;rw[Ck (Je.2 hh)];simp);have FN:Hid (∀k,k<A→OA g en GQ part k=true→Bb g en GQ A part=false):=Aa (fun k hk hh=>by unfold Bb;rw[Cj (fun q=>JF hk hh (Je.1 q))];simp);clear h hb hin hrows;unfold JW at HC SB;generalize Bb g en GQ A part=FB at*;generalize OA g en GQ part=SBF at*;generalize CV g part=CY at*;obtain⟨CK,hCK⟩:∃f:Nat→Nat,(fun a=>Eu en part a part.length)=f:=⟨_,rfl⟩;have hck:∀a,Eu en part a part.length=CK a:=fun a=>by rw[← hCK]
 simp only[hck]at HC SB KL;clear hck hCK;generalize FC g part=AF at*;obtain⟨n,hnn⟩:∃n,part.length=n:=⟨_,rfl⟩;rw[hnn]at HC HX HY SB KL hl ⊢;clear hnn;go_enter Tryz.func44,Tryz.ntmps44;go_wp2_with fail
 go_loopg [11] A (fun fu c wr=>∃k:Nat,k+fu=A∧c=.int .i64 k∧(∀a,a<k→SBF a=false)∧Hid (Below (w.alloc (.cells #[.slice sa g.S.length sc,.slice aa g.A.length ac,.slice ta g.T.length tc] 32)).heap.size (w.alloc (.cells #[.slice sa g.S.length sc,.slice aa g.A.length ac,.slice ta g.T.length tc] 32)) wr))
 case atStart=>exact⟨0,by omega,rfl,fun a ha=>by omega,Aa (Ak _ _)⟩
 case round=>
  obtain⟨k,hk,rfl,hall,HB0⟩:=hrel;have HBR:=Aa (HB.out.trans (HB0.out.mono HB.out.size));have HX0:=Aa (Ah HB0.out X0.out);have HAL:=Aa hall;clear hall;obtain⟨c0,c1,c2⟩:=DY HX0.out;by_cases hlt:k<A
  ·have z1:(k:Int)<(A:Int):=by omega
   have HC1:=Aa (HC.out wr HBR.out k hlt);have hsb:=SB.out k;have hkl:=KL.out k;have HNX:Hid (SBF k=false→∀a,a<k+1→SBF a=false):=Aa (fun hne a ha=>by
    by_cases e:a=k
    ·rw[e];exact hne
    ·exact HAL.out a (by omega))
   have HFN:=Aa (FN.out k hlt);have HXX:=Aa (fun w' hw'=>HX.out w' hw' k);obtain⟨cn,hcn⟩:∃z,CK k=z:=⟨_,rfl⟩;rw[hcn]at HC1 hsb hkl;clear hcn;cases hac:AF (k:Int)
   ·rw[hac]at hsb HXX;clear hac;by_cases hs:cn=n
    ·have E:=Aa (HFN.out (by rw[hsb];simp[GQ,hs]));have z2:((cn:Int)==(n:Int))=true:=by simp[hs]
     go_wp2_with (first
      | (go_at_call 73;refine HC1.out.mono ?_;rintro e w1 ⟨rfl,hb1⟩;have HB1:=Aa (HBR.out.trans (hb1.mono HBR.out.size));have y:=Ah hb1 HX0.out;obtain⟨d0,d1,d2⟩:=DY y;clear hb1 y)
      | (go_at_call 74;refine(HXX.out _ HB1.out).mono ?_;rintro e w2 ⟨rfl,hb2⟩;have HB2:=Aa (HB1.out.trans (hb2.mono HB1.out.size));clear hb2))
     go_ret;exact⟨by rw[E.out];rfl,HB2.out⟩
    ·have E:=Aa (HNX.out (by rw[hsb];simp[GQ,hs]));have z2:((cn:Int)==(n:Int))=false:=by simp;omega
     go_wp2_with (first
      | (go_at_call 73;refine HC1.out.mono ?_;rintro e w1 ⟨rfl,hb1⟩;have HB1:=Aa (HBR.out.trans (hb1.mono HBR.out.size));have HB3:=Aa (HB0.out.trans (hb1.mono HB0.out.size));have y:=Ah hb1 HX0.out;obtain⟨d0,d1,d2⟩:=DY y;clear hb1 y)
      | (go_at_call 74;refine(HXX.out _ HB1.out).mono ?_;rintro e w2 ⟨rfl,hb2⟩;have HB2:=Aa (HB3.out.trans (hb2.mono HB3.out.size));clear hb2))
     go_roundg (A - (k+1))
     case measure=>omega
     case rel=>exact⟨k+1,by omega,by simp,E.out,HB2⟩
   ·rw[hac]at hsb HXX;clear hac;have E:=Aa (HNX.out (by rw[hsb];rfl));go_wp2_with (first
     | (go_at_call 73;refine HC1.out.mono ?_;rintro e w1 ⟨rfl,hb1⟩;have HB1:=Aa (HBR.out.trans (hb1.mono HBR.out.size));have HB3:=Aa (HB0.out.trans (hb1.mono HB0.out.size));have y:=Ah hb1 HX0.out;obtain⟨d0,d1,d2⟩:=DY y;clear hb1 y)
     | (go_at_call 74;refine(HXX.out _ HB1.out).mono ?_;rintro e w2 ⟨rfl,hb2⟩;have HB2:=Aa (HB3.out.trans (hb2.mono HB3.out.size));clear hb2))
    go_roundg (A - (k+1))
    case measure=>omega
    case rel=>exact⟨k+1,by omega,by simp,E.out,HB2⟩
  ·obtain rfl:k=A:=by omega
   have E:=Aa (FY.out HAL.out);have HY1:=Aa (HY.out wr HBR.out);go_wp2_with (go_at_call 75;refine HY1.out.mono ?_;rintro e w1 ⟨rfl,hb1⟩;have HB1:=Aa (HBR.out.trans (hb1.mono HBR.out.size));clear hb1)
   go_ret;exact⟨by rw[E.out];rfl,HB1.out⟩
theorem Ki (v u pv:Value) (g:Gr) (en:List (List Bool)) (A:Nat) (part:List Int) (w:World) (h:Ao w v g) (hu:AO w u en) (hp:Am w pv part) (hA:A≤100)
 (hrows:∀i,i<en.length→(en.getD i []).length=A) (hin:∀x∈part,0≤x∧x<(en.length:Int)) (hel:en.length≤1000000) (hl:part.length≤1000000):
 Calls Tryz.prog 44 #[v,u,.int .i64 (A:Nat),.int .i64 2,pv] w fun e w'=>e=.returned (.bool (Bb g en Ga A part))∧Below w.heap.size w w':=by
 obtain⟨sa,aa,ta,sc,ac,tc,rfl,-⟩:=h.var;have hb:=Ae w (.cells #[.slice sa g.S.length sc,.slice aa g.A.length ac,.slice ta g.T.length tc] 32);have HC:=Aa (fun(w':World) (hb:Below w.heap.size w w') (k:Nat) (hk:k<A)=>Qa u pv en A k part w' (hu.below hb) (hp.below hb) hrows hk hin hel hl);have HX:=Aa (fun(w':World) (hb:Below w.heap.size w w') (k:Nat)=>NQ _ pv g part (k:Int) w' (h.below hb) (hp.below hb) hl);have HY:=Aa (fun(w':World) (hb:Below w.heap.size w w')=>QI _ pv g part w' (h.below hb) (hp.below hb) hl);have HB:=Aa hb;have X0:=Aa (Ar w (.cells #[.slice sa g.S.length sc,.slice aa g.A.length ac,.slice ta g.T.length tc] 32));have SB:Hid (∀a:Nat,OA g en Ga part a=(!FC g part a&&Ga (JW en part a) part.length)):=Aa (fun a=>rfl);have KL:=Aa (fun k=>Kx en part k part.length);obtain⟨pa,pc,rfl,-⟩:=hp;obtain⟨ua,uc,rfl,-⟩:=hu;have FY:Hid ((∀a,a<A→OA g en Ga part a=false)→Bb g en Ga A part=CV g part):=Aa (fun hh=>by unfold Bb;rw[Ck (Je.2 hh)];simp);have FN:Hid (∀k,k<A→OA g en Ga part k=true→Bb g en Ga A part=false):=Aa (fun k hk hh=>by unfold Bb;rw[Cj (fun q=>JF hk hh (Je.1 q))];simp);clear h hb hin hrows;unfold JW at HC SB;generalize Bb g en Ga A part=FB at*;generalize OA g en Ga part=SBF at*;generalize CV g part=CY at*;obtain⟨CK,hCK⟩:∃f:Nat→Nat,(fun a=>Eu en part a part.length)=f:=⟨_,rfl⟩;have hck:∀a,Eu en part a part.length=CK a:=fun a=>by rw[← hCK]
 simp only[hck]at HC SB KL;clear hck hCK;generalize FC g part=AF at*;obtain⟨n,hnn⟩:∃n,part.length=n:=⟨_,rfl⟩;rw[hnn]at HC HX HY SB KL hl ⊢;clear hnn;go_enter Tryz.func44,Tryz.ntmps44;go_wp2_with fail
 go_loopg [11] A (fun fu c wr=>∃k:Nat,k+fu=A∧c=.int .i64 k∧(∀a,a<k→SBF a=false)∧Hid (Below (w.alloc (.cells #[.slice sa g.S.length sc,.slice aa g.A.length ac,.slice ta g.T.length tc] 32)).heap.size (w.alloc (.cells #[.slice sa g.S.length sc,.slice aa g.A.length ac,.slice ta g.T.length tc] 32)) wr))
 case atStart=>exact⟨0,by omega,rfl,fun a ha=>by omega,Aa (Ak _ _)⟩
 case round=>
  obtain⟨k,hk,rfl,hall,HB0⟩:=hrel;have HBR:=Aa (HB.out.trans (HB0.out.mono HB.out.size));have HX0:=Aa (Ah HB0.out X0.out);have HAL:=Aa hall;clear hall;obtain⟨c0,c1,c2⟩:=DY HX0.out;by_cases hlt:k<A
  ·have z1:(k:Int)<(A:Int):=by omega
   have HC1:=Aa (HC.out wr HBR.out k hlt);have hsb:=SB.out k;have hkl:=KL.out k;have HNX:Hid (SBF k=false→∀a,a<k+1→SBF a=false):=Aa (fun hne a ha=>by
    by_cases e:a=k
    ·rw[e];exact hne
    ·exact HAL.out a (by omega))
   have HFN:=Aa (FN.out k hlt);have HXX:=Aa (fun w' hw'=>HX.out w' hw' k);obtain⟨cn,hcn⟩:∃z,CK k=z:=⟨_,rfl⟩;rw[hcn]at HC1 hsb hkl;clear hcn;cases hac:AF (k:Int)
   ·rw[hac]at hsb HXX;clear hac;by_cases hs:0<cn
    ·have E:=Aa (HFN.out (by rw[hsb];simp[Ga,hs]));have z2:(0:Int)<(cn:Int):=by omega
     go_wp2_with (first
      | (go_at_call 73;refine HC1.out.mono ?_;rintro e w1 ⟨rfl,hb1⟩;have HB1:=Aa (HBR.out.trans (hb1.mono HBR.out.size));have y:=Ah hb1 HX0.out;obtain⟨d0,d1,d2⟩:=DY y;clear hb1 y)
      | (go_at_call 74;refine(HXX.out _ HB1.out).mono ?_;rintro e w2 ⟨rfl,hb2⟩;have HB2:=Aa (HB1.out.trans (hb2.mono HB1.out.size));clear hb2))
     go_ret;exact⟨by rw[E.out];rfl,HB2.out⟩
    ·have E:=Aa (HNX.out (by rw[hsb];simp[Ga,hs]));have z2:¬(0:Int)<(cn:Int):=by omega
     go_wp2_with (first
      | (go_at_call 73;refine HC1.out.mono ?_;rintro e w1 ⟨rfl,hb1⟩;have HB1:=Aa (HBR.out.trans (hb1.mono HBR.out.size));have HB3:=Aa (HB0.out.trans (hb1.mono HB0.out.size));have y:=Ah hb1 HX0.out;obtain⟨d0,d1,d2⟩:=DY y;clear hb1 y)
      | (go_at_call 74;refine(HXX.out _ HB1.out).mono ?_;rintro e w2 ⟨rfl,hb2⟩;have HB2:=Aa (HB3.out.trans (hb2.mono HB3.out.size));clear hb2))
     go_roundg (A - (k+1))
     case measure=>omega
     case rel=>exact⟨k+1,by omega,by simp,E.out,HB2⟩
   ·rw[hac]at hsb HXX;clear hac;have E:=Aa (HNX.out (by rw[hsb];rfl));go_wp2_with (first
     | (go_at_call 73;refine HC1.out.mono ?_;rintro e w1 ⟨rfl,hb1⟩;have HB1:=Aa (HBR.out.trans (hb1.mono HBR.out.size));have HB3:=Aa (HB0.out.trans (hb1.mono HB0.out.size));have y:=Ah hb1 HX0.out;obtain⟨d0,d1,d2⟩:=DY y;clear hb1 y)
     | (go_at_call 74;refine(HXX.out _ HB1.out).mono ?_;rintro e w2 ⟨rfl,hb2⟩;have HB2:=Aa (HB3.out.trans (hb2.mono HB3.out.size));clear hb2))
    go_roundg (A - (k+1))
    case measure=>omega
    case rel=>exact⟨k+1,by omega,by simp,E.out,HB2⟩
  ·obtain rfl:k=A:=by omega
   have E:=Aa (FY.out HAL.out);have HY1:=Aa (HY.out wr HBR.out);go_wp2_with (go_at_call 75;refine HY1.out.mono ?_;rintro e w1 ⟨rfl,hb1⟩;have HB1:=Aa (HBR.out.trans (hb1.mono HBR.out.size));clear hb1)
   go_ret;exact⟨by rw[E.out];rfl,HB1.out⟩
end Go.Proofs.YtlhpjfnfemebdaaGreat
