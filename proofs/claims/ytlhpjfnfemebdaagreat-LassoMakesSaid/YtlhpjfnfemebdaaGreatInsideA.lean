/- trail.Inside: the walk. ref's Out: the edges are a row of -/
import Derived.Test.YtlhpjfnfemebdaaGreatTrailA
import Derived.Test.YtlhpjfnfemebdaaGreatJPartsMem
import Derived.Deep.AppendSrc
import Derived.StillTailTactics
set_option maxRecDepth 100000
set_option maxHeartbeats 64000000
set_option linter.unusedSimpArgs false
namespace Go.Proofs.YtlhpjfnfemebdaaGreat
open Go.RowKit
theorem Zg(g:Gr)(inl:List Bool)(v1 v2 v3 u:Value)(ib gb k:Nat)(w:World)(hg:w.heap[gb]?=some (.cells #[v1,v2,v3] 32 (0,0)))(hG:Ao w (.agg #[v1,v2,v3]) g)(hi:w.heap[ib]?=some (.cells #[u] 56 (0,0)))(hu:Bc w u inl)(hl:inl.length+1=g.S.length)(hk:k≤1000000):
 Calls Tryz.prog 106 #[.int .i64 (k:Nat),.pointer (some ⟨ib,0,none⟩),.pointer (some ⟨gb,0,none⟩)] w fun e w'=>e=.returned (.bool (Cz inl (k:Int)))∧Below w.heap.size w w':=by
 obtain⟨sa,aa,ta,sc,ac,tc,e,-⟩:=hG.var;simp only[Value.agg.injEq,Array.mk.injEq,List.cons.injEq,and_true]at e;obtain⟨rfl,rfl,rfl⟩:=e;have c0:=Ab hg 0 _ rfl;have c3:=Ab hi 0 _ rfl;obtain⟨a,c,rfl,hc⟩:=hu;by_cases hlt:k<inl.length
 ·obtain⟨b2,o2,rfl,d⟩:=hc k hlt;have z:(k:Int)<(inl.length:Int):=by omega
  have z2:(k:Int)+1<(g.S.length:Int):=by omega
  have E:Cz inl (k:Int)=inl.getD k false:=by unfold Cz;rw[Ck z,BT];rfl
  rw[E];clear hc E hl hG hg hi;generalize inl.getD k false=x at*;cases x
  ·go_enter Tryz.func106,Tryz.ntmps106;go_wp2_with fail
   go_ret;exact⟨rfl,Ak _ _⟩
  ·go_enter Tryz.func106,Tryz.ntmps106;go_wp2_with fail
   go_ret;exact⟨rfl,Ak _ _⟩
 ·have z:¬(k:Int)<(inl.length:Int):=by omega
  have E:Cz inl (k:Int)=false:=by unfold Cz;rw[Cj z];rfl
  rw[E];clear hc E hl hG hg hi;go_enter Tryz.func106,Tryz.ntmps106;go_wp2_with fail
  go_ret;exact⟨rfl,Ak _ _⟩
def Lb(g:Gr)(inl:List Bool)(tgt:Int)(F:FS)(i:Nat):Option (List Int):=ZE g inl tgt (inl.length+1 - i) F i
theorem SN{g:Gr}{inl:List Bool}{tgt:Int}{F:FS}{i:Nat}(hi:i<F.length)(hl:F.length≤inl.length)(h:(F.getD i (0,[])).1=tgt):Lb g inl tgt F i=some (F.getD i (0,[])).2:=by
 unfold Lb;rw[show inl.length+1 - i=(inl.length - i)+1 by omega,ZE,if_pos hi,if_pos h]
theorem Pk{g:Gr}{inl:List Bool}{tgt:Int}{F:FS}{i:Nat}(hi:i<F.length)(hl:F.length≤inl.length)(h:(F.getD i (0,[])).1≠tgt):Lb g inl tgt F i=Lb g inl tgt (OZ g inl F i) (i+1):=by
 unfold Lb;rw[show inl.length+1 - i=(inl.length - i)+1 by omega,ZE,if_pos hi,if_neg h,show inl.length+1 - (i+1)=inl.length - i by omega]
theorem Sl{g:Gr}{inl:List Bool}{tgt:Int}{F:FS}{i:Nat}(hi:¬i<F.length):Lb g inl tgt F i=none:=by
 unfold Lb;cases inl.length+1 - i with
 | zero=>rfl
 | succ n=>rw[ZE,if_neg hi]
structure Tm(w3 wr:World)(F:FS)(i:Nat)(f:Int→Option (Int×Int))(qv:Value):Prop where
 below:Below w3.heap.size w3 wr
 map:Eb wr w3.heap.size F.length f
 mf:MO F f
 q:EG wr (w3.heap.size+1) qv ((F.drop i).map (fun y=>y.1)) (F.length - i)
theorem Tm.more{w3 wr w':World}{F:FS}{i:Nat}{f:Int→Option (Int×Int)}{qv:Value}(h:Tm w3 wr F i f qv)(hb:Below wr.heap.size wr w'):Tm w3 w' F i f qv:=
 ⟨h.below.trans (hb.mono h.below.size),h.map.more hb,h.mf,h.q.more hb⟩
theorem Tm.start{w3 w4:World}{src:Int}{f:Int→Option (Int×Int)}(hm:Eb w4 w3.heap.size 1 f)(hf:f=fun x=>if x=src then some (-1,-1) else none)(hg:(w3.alloc (.map #[] 0)).grownBy w4 (some w3.heap.size)):
 Tm w3 (w4.alloc (.cells #[.int .i64 src] 3)) [(src,[])] 0 f (.slice (some ⟨w4.heap.size,0,none⟩) 1 1):=by
 have h1:Below w3.heap.size w3 w4:=(Ae w3 _).grown hg (by simp) (fun k hk=>by cases hk;exact AQ _);have h2:w3.heap.size+1≤w4.heap.size:=by have:=hg.size;simpa using this
 exact⟨h1.trans ((Ae w4 _).mono h1.size),hm.more (Ae w4 _),by rw[hf];exact MO.start src,EG.one (Ar w4 _) h2⟩
theorem Tm.q5{w3 wr w5:World}{F:FS}{i:Nat}{f:Int→Option (Int×Int)}{qv:Value}(h:Tm w3 wr F i f qv)(hg:wr.grownBy w5 (some w3.heap.size))(o:Obj):EG (w5.alloc o) (w3.heap.size+1) qv ((F.drop i).map (fun y=>y.1)) (F.length - i)∧w3.heap.size+1≤(w5.alloc o).heap.size:=by
 have hf:Bn (fun k=>k=w3.heap.size) wr w5:=(Bn.refl _ wr).grown hg (fun k hk _=>by cases hk;rfl);have hlt:=h.map.lt;have hsz:=hg.size;refine⟨(h.q.frm hf (fun k hk e=>by have:=(h.q.lt k hk).1;omega)).more (Ae w5 o),by simp;omega⟩
theorem Tm.add {w3 wr w5 w6:World} {F F':FS} {i:Nat} {f f':Int→Option (Int×Int)} {qv qv':Value} {z:Int} {p:List Int} (h:Tm w3 wr F i f qv) (hi:i≤F.length) (hm5:Eb w5 w3.heap.size (F.length+1) f') (hF:F'=F++[(z,p)]) (hf':MO F' f')
 (hg5:wr.grownBy w5 (some w3.heap.size)) {o:Obj} (hq6:EG w6 (w3.heap.size+1) qv' ((F.drop i).map (fun y=>y.1)++[z]) (F.length - i+1)) (hg6:(w5.alloc o).grownBy w6 qv.ownBlock):Tm w3 w6 F' i f' qv':=by
 have hl:F'.length=F.length+1:=by rw[hF];simp
 have hlt:=h.map.lt;have hb5:Below w3.heap.size w3 w5:=h.below.grown hg5 (by omega) (fun k hk=>by cases hk;exact AQ _);have hb6:Below w3.heap.size w3 w6:=(hb5.trans ((Ae w5 o).mono hb5.size)).grown hg6 (by have:=hb5.size;simp;omega) (fun k hk=>by have:=(h.q.lt k hk).1;omega);refine⟨hb6,?_,hf',?_⟩
 ·rw[hl];exact(hm5.more (Ae w5 o)).kept hg6 (fun e=>by have:=(h.q.lt _ e.symm).1;omega)
 ·rw[hl,hF,List.drop_append_of_le_length hi,Ec,show F.length+1 - i=F.length - i+1 by omega];exact hq6
theorem Ca{w:World}{base:Nat}{e:TypeId}{size:Nat}{v:Value}{n:Nat}{xs:List Value}(ho:w.ownsRow base e size v n xs){k:Nat}(hk:v.ownBlock=some k):∃cur,w.heap[k]?=some (.cells cur e (0,0)):=by
 rcases ho.2 with⟨rfl,-⟩ | ⟨g',cap',cur,rfl,-,hg,-⟩
 ·cases hk
 ·obtain rfl:g'=k:=by simpa[Value.ownBlock]using hk
  exact⟨cur,hg⟩
theorem LU{w w':World}{B b m n:Nat}{v:Value}{xs:List Value}{f:Int→Option (Int×Int)}(ho:w.ownsRow B 54 3 v n xs)(hm:Eb w b m f)(hg:w.grownBy w' (some b)):w'.ownsRow B 54 3 v n xs:=by
 refine ho.kept hg ?_;rcases e:v.ownBlock with _ | k
 ·exact .inl rfl
 ·refine .inr (fun e2=>?_);obtain⟨cur,h⟩:=Ca ho e;exact hm.ne h (Option.some.inj e2).symm
theorem PZ{w w':World}{B base n m:Nat}{v qv:Value}{xs:List Value}{ys:List Int}(ho:w.ownsRow B 54 3 v n xs)(hq:EG w base qv ys m)(hg:w.grownBy w' qv.ownBlock):w'.ownsRow B 54 3 v n xs:=by
 refine ho.kept hg ?_;rcases e:v.ownBlock with _ | k
 ·exact .inl rfl
 ·refine .inr (fun e2=>?_);obtain⟨cur,h⟩:=Ca ho e;obtain⟨g',off,cap,cur',rfl,-,h2,-⟩:=hq.ex;obtain rfl:k=g':=by simpa[Value.ownBlock]using e2
  rw[h]at h2;cases h2
theorem UH{F:FS}{i:Nat}(h:i<F.length):(F.drop i).map (fun y=>y.1)=(F.getD i (0,[])).1::(F.drop (i+1)).map (fun y=>y.1):=by
 rw[List.drop_eq_getElem_cons h,List.map_cons,AM,Bf h];rfl
theorem Wt(v u:Value)(g:Gr)(inl:List Bool)(src tgt:Nat)(w:World)(h:Ao w v g)(hu:Bc w u inl)(hR:Rt g)(hl:inl.length=Ad g)(hlim:inl.length≤100000)(hs:Cz inl (src:Int)=true)(ht:Cz inl (tgt:Int)=true):
 Calls Tryz.prog 84 #[v,.int .i64 (src:Nat),.int .i64 (tgt:Nat),u] w fun e w'=>∃pv,e=.returned (.tuple #[pv,.bool (EB g inl src tgt).isSome])∧w'.ownsRow w.heap.size 3 1 pv ((EB g inl src tgt).getD []).length (((EB g inl src tgt).getD []).map (Value.int .i64))∧Below w.heap.size w w':=by
 have hnr:=Ap hR;obtain⟨sa,aa,ta,sc,ac,tc,rfl,-⟩:=h.var;obtain⟨ua,uc,rfl,-⟩:=id hu;have hmm:=@run_makeMap Tryz.prog;have hlt:∀k:Nat,Cz inl (k:Int)=true→k≤100000:=fun k hk=>by
  unfold Cz at hk;rw[Ci,EU]at hk;omega
 have hb0:=Ae w (.cells #[.slice sa g.S.length sc,.slice aa g.A.length ac,.slice ta g.T.length tc] 32);have hb1:=hb0.trans ((Ae (w.alloc (.cells #[.slice sa g.S.length sc,.slice aa g.A.length ac,.slice ta g.T.length tc] 32)) (.cells #[.slice ua inl.length uc] 56)).mono hb0.size);have HIS:=Aa (fun(w':World) (hb:Below w.heap.size w w') (hvg:w'.heap[w.heap.size]?=some (.cells #[.slice sa g.S.length sc,.slice aa g.A.length ac,.slice ta g.T.length tc] 32 (0,0))) (hvi:w'.heap[w.heap.size+1]?=some (.cells #[.slice ua inl.length uc] 56 (0,0))) (k:Nat) (hk:k≤1000000)=>
  Zg g inl _ _ _ (.slice ua inl.length uc) (w.heap.size+1) w.heap.size k w' hvg (h.below hb) hvi (hu.below hb) (by have:=hR.ne;omega) hk)
 have HOU:=Aa (fun(w':World) (hb:Below w.heap.size w w') (x:Int)=>aZ _ g x w' (h.below hb));have OL:Hid (∀x,(AR g x).length≤1000000):=Aa (fun x=>CP (Fk g _) h.sT);have X0:=Aa (Ah (Ae (w.alloc (.cells #[.slice sa g.S.length sc,.slice aa g.A.length ac,.slice ta g.T.length tc] 32)) (.cells #[.slice ua inl.length uc] 56)) (Ar w (.cells #[.slice sa g.S.length sc,.slice aa g.A.length ac,.slice ta g.T.length tc] 32)));have X1:=Aa (Ev w (.cells #[.slice sa g.S.length sc,.slice aa g.A.length ac,.slice ta g.T.length tc] 32) (.cells #[.slice ua inl.length uc] 56));have B1:=Aa hb1;have hNN:Ad g≤100000:=by omega
 have hsk:=hlt src hs;have htk:=hlt tgt ht;have WFS:Hid ((Lit.int .i64 ((src:Nat):Int)).wf=true):=Aa (WalkArith.wf_i64 (by omega));have BI0:=Aa (BI.start (g:=g) hs (by omega));have IS1:=Aa (HIS.out _ hb1 X0.out X1.out src (by omega));have HST:=Aa hs;have HTT:=Aa ht;rw[hs]at IS1;have HIS2:Hid (∀(w':World),Below w.heap.size w w'→w'.heap[w.heap.size]?=some (.cells #[.slice sa g.S.length sc,.slice aa g.A.length ac,.slice ta g.T.length tc] 32 (0,0))→w'.heap[w.heap.size+1]?=some (.cells #[.slice ua inl.length uc] 56 (0,0))→Calls Tryz.prog 106 #[.int .i64 (tgt:Nat),.pointer (some ⟨w.heap.size+1,0,none⟩),.pointer (some ⟨w.heap.size,0,none⟩)] w' fun e w2=>e=.returned (.bool true)∧Below w'.heap.size w' w2):=
  Aa (fun w' hb a b=>by have:=HIS.out w' hb a b tgt (by omega);rwa [ht]at this)
 clear h hu hb0 hb1 hs ht hlt hl;have RI:Hid (EB g inl src tgt=Lb g inl tgt [((src:Nat),[])] 0):=Aa rfl;generalize EB g inl src tgt=RES at*;go_enter Tryz.func84,Tryz.ntmps84;go_wp2_with (first
  | (go_at_call 106;refine(HIS2.out _ B2.out X20.out X21.out).mono ?_;rintro e w3 ⟨rfl,hb⟩;have B3:=Aa (B2.out.trans (hb.mono B2.out.size));have X30:=Aa (Ah hb X20.out);have X31:=Aa (Ah hb X21.out);obtain⟨w4,hr4,hm4,hg4⟩:=(Eb.made w3).put (p:=(-1,-1)) (by decide) WFS.out;dsimp only[It]at hr4;have I0:=Aa (Tm.start hm4 rfl hg4);clear hb hm4 hg4)
  | (go_at_call 106;refine IS1.out.mono ?_;rintro e w2 ⟨rfl,hb⟩;have B2:=Aa (B1.out.trans (hb.mono B1.out.size));have X20:=Aa (Ah hb X0.out);have X21:=Aa (Ah hb X1.out);clear hb))
 clear hr4 hmm;go_loopg [12] (inl.length+1) (fun fu qv wr=>∃(F:FS) (i:Nat) (f:Int→Option (Int×Int)),i+fu=inl.length+1∧i≤F.length∧Hid (Tm w3 wr F i f qv)∧Hid (BI g inl src F)∧Hid (RES=Lb g inl tgt F i))
 case atStart=>exact⟨_,0,_,by omega,by omega,I0,BI0,RI⟩
 case round=>
  clear I0 BI0 RI;obtain⟨F,i,f,hfu,hiF,HI,HB,HR⟩:=hrel;have hFl:=HB.out.len;obtain⟨q0,off,cap,rfl,hnc,hcm,hcell⟩:=HI.out.q.cell;by_cases hlt:i<F.length
  ·obtain⟨n,hn⟩:∃n,F.length - i=n+1:=⟨F.length - i - 1,by omega⟩;have hpc:=hcell 0 (by omega);rw[UH hlt]at hpc;have hq:=HI.out.q;rw[UH hlt,hn]at hq;rw[hn];have hxm:=HB.out.inn _ (Lp hlt);obtain⟨x,hx⟩:∃x:Nat,(F.getD i (0,[])).1=(x:Int):=⟨(F.getD i (0,[])).1.toNat,by omega⟩;have hpc2:wr.cell? ⟨q0,off,none⟩=some (.int .i64 ((x:Nat):Int)):=by rw[← hx];exact hpc
   have HX:=Aa hx;have HL:=Aa hlt;unfold maxLen at hcm;clear hpc hcell hxm;by_cases hxt:x=tgt
   ·have E:=Aa (show RES=some (F.getD i (0,[])).2 by rw[HR.out];exact SN hlt hFl (by rw[hx,hxt]));have HBK:Hid (Calls Tryz.prog 107 #[.map (some w3.heap.size),.int .i64 (x:Nat)] wr (UZ wr (F.getD i (0,[])).2)):=Aa (by
     have:=Za F f w3.heap.size F.length i wr HI.out.map HI.out.mf hlt (fun y hy=>(HB.out.inn y hy).2) (fun y hy=>by
      obtain⟨h1,h2⟩:=HB.out.inn y hy;unfold Cz at h1;rw[Ci,EU]at h1;exact WalkArith.wf_i64 (by omega)) (by omega)
     rwa [hx]at this)
    obtain⟨p,hp⟩:∃p,(F.getD i (0,[])).2=p:=⟨_,rfl⟩;rw[hp]at E HBK;clear hx hlt hp;subst hxt;have hzz:((x:Int)==(x:Int))=true:=by simp
    clear hq;by_cases hcap:cap=1;all_goals
     go_wp2_with (go_at_call 107;refine HBK.out.mono ?_;rintro e w6 ⟨rv,rfl,hi6,hb6⟩;obtain⟨ra,rc,rfl⟩:=CQ hi6;have HI6:=Aa (FG hi6 (B3.out.trans (HI.out.below.mono B3.out.size)).size);have HB6:=Aa (B3.out.trans ((HI.out.below.trans (hb6.mono HI.out.below.size)).mono B3.out.size));clear hb6 hi6)
     refine Bd (v:=.tuple #[.slice ra p.length rc,.bool true]) (by simp[results,Tryz.results84,go_sem]) rfl ?_;exact⟨_,by rw[E.out];rfl,by rw[E.out];exact HI6.out,HB6.out⟩
   ·have E:=Aa (show RES=Lb g inl tgt (OZ g inl F i) (i+1) by rw[HR.out];exact Pk hlt hFl (by rw[hx];omega));have hz:((x:Int)==(tgt:Int))=false:=Bh (by omega);have hv:OZ g inl F i=EY inl (AR g x) (F.getD i (0,[])).2 F (AR g x).length:=by unfold OZ;rw[hx]
    rw[hv]at E;have HE:=Aa (fun k hk=>HB.out.vis HL.out (i:=i) k hk);rw[hx]at HE;have HG:=Aa (fun k (hk:k<(AR g x).length)=>Hq (Up hk));have HO5:=Aa (Gi (inl:=inl) (el:=AR g x) (p:=(F.getD i (0,[])).2) (F:=F));have HVS:=Aa (fun k (hk:k<(AR g x).length)=>Hm (inl:=inl) (p:=(F.getD i (0,[])).2) (F:=F) hk);have HGI:Hid (F.getD i (0,[])=((x:Int),(F.getD i (0,[])).2)):=Aa (by rw[← hx]);have HB5:=Aa (B3.out.trans (HI.out.below.mono B3.out.size));have HOC:=Aa (HOU.out wr HB5.out x);have hol:=OL.out (x:Int);have X50:=Aa (Ah HI.out.below X30.out);have X51:=Aa (Ah HI.out.below X31.out);obtain⟨c0,c1,c2⟩:=DY X50.out;clear hv;generalize AR g x=el at*;obtain⟨p,hp⟩:∃p,(F.getD i (0,[])).2=p:=⟨_,rfl⟩;rw[hp]at E HE HO5 HVS HGI;clear hp hx hlt;have hn1:F.length - (i+1)=n:=by omega
    obtain⟨WO,rfl⟩:∃z:World,z=wr:=⟨_,rfl⟩;by_cases hcap:cap=1
    ·subst hcap;have HI5:=Aa (show Tm w3 WO F (i+1) f (.slice (some ⟨q0,off,none⟩) n 0) from⟨HI.out.below,HI.out.map,HI.out.mf,by rw[hn1];exact hq.pop1⟩);have hcap:(1:Nat)=1:=rfl;clear hq hn1;go_wp2_with (go_at_call 83;refine HOC.out.mono ?_;rintro e w5 ⟨rv,rfl,ho5,hb5⟩;obtain⟨ea,ec,rfl⟩:=CQ ho5;have HED:=Aa ho5;have I5:=Aa (HI5.out.more hb5);clear hb5 ho5)
     clear c0 c1 c2 hcap HI5 HI HB HR;go_loopg [12,53] el.length (fun fu qv c wr=>∃(k:Nat) (f':Int→Option (Int×Int)),k+fu=el.length∧c=.int .i64 k∧Hid (Tm w3 wr (EY inl el p F k) (i+1) f' qv)∧Hid (wr.ownsRow WO.heap.size 54 3 (.slice ea el.length ec) el.length (AA el)))
     case atStart=>exact⟨0,f,by omega,rfl,I5,HED⟩
     case round=>
      clear I5 HED;obtain⟨k,f',hk,rfl,IK,HED⟩:=hrel;obtain⟨q1,off1,cap1,rfl,-,hcm1,-⟩:=IK.out.q.cell;by_cases hlk:k<el.length
      ·have z1:(k:Int)<(el.length:Int):=by omega
       obtain⟨a',c',e',hcl⟩:=BC HED.out;simp only[Value.slice.injEq,true_and]at e';obtain⟨rfl,rfl⟩:=e';obtain⟨b3,o3,rfl,e1,e2,e3⟩:=hcl k hlk;have hrng:=HG.out k hlk;have BK:=Aa (HE.out k (by omega));have VS:=Aa (HVS.out k hlk);have OLD:=HO5.out k (by omega);have OLDH:=Aa OLD;have hfl:=BK.out.len;clear hcl OLD;obtain⟨FN,hFN⟩:∃z,EY inl el p F (k+1)=z:=⟨_,rfl⟩;have HFN:=Aa hFN;rw[hFN]at VS;clear hFN;obtain⟨FK,hFK⟩:∃z,EY inl el p F k=z:=⟨_,rfl⟩;rw[hFK]at IK BK VS OLDH hfl ⊢;clear hFK;generalize el.getD k (0,0,0)=ed at*;obtain⟨ex,ey,ez⟩:=ed;obtain⟨zn,rfl⟩:∃z:Nat,ez=(z:Int):=⟨ez.toNat,by have:=hrng.1;dsimp only at this;omega⟩;have hzn:zn≤100000:=by have:=hrng.2.1;dsimp only at this;omega
       have WZ:Hid ((Lit.int .i64 ((zn:Nat):Int)).wf=true):=Aa (WalkArith.wf_i64 (by omega));clear hrng;obtain⟨p1,hp1⟩:∃z:Int×Int,(f' (zn:Int)).getD (0,0)=z:=⟨_,rfl⟩;have hbA:=Ae wr (.cells #[.int .i64 ex,.int .i64 ey,.int .i64 (zn:Nat)] 54);have hbB:=Ae (wr.alloc (.cells #[.int .i64 ex,.int .i64 ey,.int .i64 (zn:Nat)] 54)) (.cells #[.int .i64 p1.1,.int .i64 p1.2] 146);have I1:=Aa (IK.out.more hbA);have I2:=Aa (I1.out.more hbB);have ED2:=Aa ((HED.out.alloc (.cells #[.int .i64 ex,.int .i64 ey,.int .i64 (zn:Nat)] 54)).alloc (.cells #[.int .i64 p1.1,.int .i64 p1.2] 146));have EV2:=Aa (Ah hbB (Ar wr (.cells #[.int .i64 ex,.int .i64 ey,.int .i64 (zn:Nat)] 54)));have HHAS:=Aa (IK.out.mf.has (zn:Int));have HI2:=Aa (HIS.out _ (B3.out.trans (I2.out.below.mono B3.out.size)) (Ah I2.out.below X30.out) (Ah I2.out.below X31.out) zn (by omega));clear hbA hbB;cases hh:(f' (zn:Int)).isSome
       ·rw[hh]at HHAS;cases hin:Cz inl (zn:Int)
        ·rw[hin]at HI2;have E1:Hid (FN=FK):=Aa (by rw[VS.out];exact if_neg (fun q=>by rw[hin]at q;cases q.1));clear hin;go_wp2_with (first
          | (at_lookup;refine FX I1.out.map rfl rfl rfl rfl WZ.out ?_;rw[hp1,hh];unfold It)
          | (go_at_call 106;refine HI2.out.mono ?_;rintro e w7 ⟨rfl,hb7⟩;have I7:=Aa (I2.out.more hb7);have ED7:=Aa (Al (F:=fun _=>False) ED2.out (Df hb7 _) (fun _ _=>id));clear hb7))
         go_roundg (el.length - (k+1))
         case measure=>omega
         case rel=>exact⟨k+1,f',by omega,by simp,by rw[HFN.out,E1.out];exact I7,ED7⟩
        ·rw[hin]at HI2;obtain⟨hle,hget⟩:=OLDH.out;have hnew:∀y∈FK,y.1≠(zn:Int):=fun y hy e=>by have:=HHAS.out.2 ⟨y,hy,e⟩;cases this
         have E1:Hid (FN=FK++[((zn:Int),p++[ey])]):=Aa (by rw[VS.out];exact if_pos ⟨hin,hnew⟩);have MF1:Hid (MO FN (fun z=>if z=(zn:Int) then some ((x:Int),ey) else f' z)):=Aa (by
          have:=IK.out.mf.add (i:=i) (Nat.lt_of_lt_of_le HL.out hle) (e:=(ex,ey,(zn:Int))) hnew;rw[hget i HL.out,HGI.out]at this;rw[E1.out];exact this)
         have hiK:i+1≤FK.length:=by have:=HL.out;omega
         have hfk:FK.length≤100000:=by omega
         clear hin hnew hget;go_wp2_with (first
          | (at_lookup;refine FX I1.out.map rfl rfl rfl rfl WZ.out ?_;rw[hp1,hh];unfold It)
          | (go_at_call 106;refine HI2.out.mono ?_;rintro e w7 ⟨rfl,hb7⟩;have I7:=Aa (I2.out.more hb7);have ED7:=Aa (Al (F:=fun _=>False) ED2.out (Df hb7 _) (fun _ _=>id));have EV7:=Aa (Ah hb7 EV2.out);obtain⟨t0,t1,t2⟩:=DY EV7.out;clear hb7)
          | (at_mapUpdate;refine UM I7.out.map (by unfold maxLen;omega) rfl (.inl rfl) rfl rfl (p:=((x:Int),ey)) rfl WZ.out ?_;intro w8 hm8 hg8;have Q8:=Aa (I7.out.q5 hg8 (.cells #[.int .i64 (zn:Nat)] 3));have HM8:=Aa hm8;have HG8:=Aa hg8;have ED8:=Aa (LU ED7.out I7.out.map hg8);have ev8:w8.heap[wr.heap.size]?=some (.cells #[.int .i64 ex,.int .i64 ey,.int .i64 (zn:Nat)] 54 (0,0)):=(by rw[hg8.block _ (BO.1 EV7.out).1 (fun e=>I7.out.map.ne EV7.out (Option.some.inj e).symm)];exact EV7.out);obtain⟨u0,u1,u2⟩:=DY ev8;clear hm8 hg8 ev8)
          | (at_builtin;refine US Q8.out.1 rfl _ _ rfl rfl rfl (Ar w8 _) (by omega) Q8.out.2 ?_;intro g9 off9 cap9 w9 hq9 hg9;have I9:=Aa (I7.out.add hiK HM8.out E1.out MF1.out HG8.out hq9 hg9);have ED9:=Aa (PZ (ED8.out.alloc (.cells #[.int .i64 (zn:Nat)] 3)) Q8.out.1 hg9);clear hq9 hg9))
         go_roundg (el.length - (k+1))
         case measure=>omega
         case rel=>exact⟨k+1,_,by omega,by simp,by rw[HFN.out];exact I9,ED9⟩
       ·rw[hh]at HHAS;have E1:Hid (FN=FK):=Aa (by
         rw[VS.out];obtain⟨y,hy,hye⟩:=HHAS.out.1 rfl;exact if_neg (fun q=>q.2 y hy hye))
        go_wp2_with (at_lookup;refine FX I1.out.map rfl rfl rfl rfl WZ.out ?_;rw[hp1,hh];unfold It)
        go_roundg (el.length - (k+1))
        case measure=>omega
        case rel=>exact⟨k+1,f',by omega,by simp,by rw[HFN.out,E1.out];exact I2,ED2⟩
      ·obtain rfl:k=el.length:=by omega
       have hst:=HO5.out el.length (AQ _);have HB6:=Aa (HE.out el.length (AQ _));have h1:=HL.out;obtain⟨hle,-⟩:=hst;generalize EY inl el p F el.length=FK at*;clear HO5 HVS HG HE;go_wp2_with fail
       go_roundg (inl.length+1 - (i+1))
       case measure=>omega
       case rel=>exact⟨FK,i+1,f',by omega,by omega,IK,HB6,E⟩
    ·have HI5:=Aa (show Tm w3 WO F (i+1) f (.slice (some ⟨q0,off+1,none⟩) n (cap - 1)) from⟨HI.out.below,HI.out.map,HI.out.mf,by rw[hn1];exact hq.pop⟩);clear hq hn1;go_wp2_with (go_at_call 83;refine HOC.out.mono ?_;rintro e w5 ⟨rv,rfl,ho5,hb5⟩;obtain⟨ea,ec,rfl⟩:=CQ ho5;have HED:=Aa ho5;have I5:=Aa (HI5.out.more hb5);clear hb5 ho5)
     clear c0 c1 c2 hcap HI5 HI HB HR;go_loopg [12,53] el.length (fun fu qv c wr=>∃(k:Nat) (f':Int→Option (Int×Int)),k+fu=el.length∧c=.int .i64 k∧Hid (Tm w3 wr (EY inl el p F k) (i+1) f' qv)∧Hid (wr.ownsRow WO.heap.size 54 3 (.slice ea el.length ec) el.length (AA el)))
     case atStart=>exact⟨0,f,by omega,rfl,I5,HED⟩
     case round=>
      clear I5 HED;obtain⟨k,f',hk,rfl,IK,HED⟩:=hrel;obtain⟨q1,off1,cap1,rfl,-,hcm1,-⟩:=IK.out.q.cell;by_cases hlk:k<el.length
      ·have z1:(k:Int)<(el.length:Int):=by omega
       obtain⟨a',c',e',hcl⟩:=BC HED.out;simp only[Value.slice.injEq,true_and]at e';obtain⟨rfl,rfl⟩:=e';obtain⟨b3,o3,rfl,e1,e2,e3⟩:=hcl k hlk;have hrng:=HG.out k hlk;have BK:=Aa (HE.out k (by omega));have VS:=Aa (HVS.out k hlk);have OLD:=HO5.out k (by omega);have OLDH:=Aa OLD;have hfl:=BK.out.len;clear hcl OLD;obtain⟨FN,hFN⟩:∃z,EY inl el p F (k+1)=z:=⟨_,rfl⟩;have HFN:=Aa hFN;rw[hFN]at VS;clear hFN;obtain⟨FK,hFK⟩:∃z,EY inl el p F k=z:=⟨_,rfl⟩;rw[hFK]at IK BK VS OLDH hfl ⊢;clear hFK;generalize el.getD k (0,0,0)=ed at*;obtain⟨ex,ey,ez⟩:=ed;obtain⟨zn,rfl⟩:∃z:Nat,ez=(z:Int):=⟨ez.toNat,by have:=hrng.1;dsimp only at this;omega⟩;have hzn:zn≤100000:=by have:=hrng.2.1;dsimp only at this;omega
       have WZ:Hid ((Lit.int .i64 ((zn:Nat):Int)).wf=true):=Aa (WalkArith.wf_i64 (by omega));clear hrng;obtain⟨p1,hp1⟩:∃z:Int×Int,(f' (zn:Int)).getD (0,0)=z:=⟨_,rfl⟩;have hbA:=Ae wr (.cells #[.int .i64 ex,.int .i64 ey,.int .i64 (zn:Nat)] 54);have hbB:=Ae (wr.alloc (.cells #[.int .i64 ex,.int .i64 ey,.int .i64 (zn:Nat)] 54)) (.cells #[.int .i64 p1.1,.int .i64 p1.2] 146);have I1:=Aa (IK.out.more hbA);have I2:=Aa (I1.out.more hbB);have ED2:=Aa ((HED.out.alloc (.cells #[.int .i64 ex,.int .i64 ey,.int .i64 (zn:Nat)] 54)).alloc (.cells #[.int .i64 p1.1,.int .i64 p1.2] 146));have EV2:=Aa (Ah hbB (Ar wr (.cells #[.int .i64 ex,.int .i64 ey,.int .i64 (zn:Nat)] 54)));have HHAS:=Aa (IK.out.mf.has (zn:Int));have HI2:=Aa (HIS.out _ (B3.out.trans (I2.out.below.mono B3.out.size)) (Ah I2.out.below X30.out) (Ah I2.out.below X31.out) zn (by omega));clear hbA hbB;cases hh:(f' (zn:Int)).isSome
       ·rw[hh]at HHAS;cases hin:Cz inl (zn:Int)
        ·rw[hin]at HI2;have E1:Hid (FN=FK):=Aa (by rw[VS.out];exact if_neg (fun q=>by rw[hin]at q;cases q.1));clear hin;go_wp2_with (first
          | (at_lookup;refine FX I1.out.map rfl rfl rfl rfl WZ.out ?_;rw[hp1,hh];unfold It)
          | (go_at_call 106;refine HI2.out.mono ?_;rintro e w7 ⟨rfl,hb7⟩;have I7:=Aa (I2.out.more hb7);have ED7:=Aa (Al (F:=fun _=>False) ED2.out (Df hb7 _) (fun _ _=>id));clear hb7))
         go_roundg (el.length - (k+1))
         case measure=>omega
         case rel=>exact⟨k+1,f',by omega,by simp,by rw[HFN.out,E1.out];exact I7,ED7⟩
        ·rw[hin]at HI2;obtain⟨hle,hget⟩:=OLDH.out;have hnew:∀y∈FK,y.1≠(zn:Int):=fun y hy e=>by have:=HHAS.out.2 ⟨y,hy,e⟩;cases this
         have E1:Hid (FN=FK++[((zn:Int),p++[ey])]):=Aa (by rw[VS.out];exact if_pos ⟨hin,hnew⟩);have MF1:Hid (MO FN (fun z=>if z=(zn:Int) then some ((x:Int),ey) else f' z)):=Aa (by
          have:=IK.out.mf.add (i:=i) (Nat.lt_of_lt_of_le HL.out hle) (e:=(ex,ey,(zn:Int))) hnew;rw[hget i HL.out,HGI.out]at this;rw[E1.out];exact this)
         have hiK:i+1≤FK.length:=by have:=HL.out;omega
         have hfk:FK.length≤100000:=by omega
         clear hin hnew hget;go_wp2_with (first
          | (at_lookup;refine FX I1.out.map rfl rfl rfl rfl WZ.out ?_;rw[hp1,hh];unfold It)
          | (go_at_call 106;refine HI2.out.mono ?_;rintro e w7 ⟨rfl,hb7⟩;have I7:=Aa (I2.out.more hb7);have ED7:=Aa (Al (F:=fun _=>False) ED2.out (Df hb7 _) (fun _ _=>id));have EV7:=Aa (Ah hb7 EV2.out);obtain⟨t0,t1,t2⟩:=DY EV7.out;clear hb7)
          | (at_mapUpdate;refine UM I7.out.map (by unfold maxLen;omega) rfl (.inl rfl) rfl rfl (p:=((x:Int),ey)) rfl WZ.out ?_;intro w8 hm8 hg8;have Q8:=Aa (I7.out.q5 hg8 (.cells #[.int .i64 (zn:Nat)] 3));have HM8:=Aa hm8;have HG8:=Aa hg8;have ED8:=Aa (LU ED7.out I7.out.map hg8);have ev8:w8.heap[wr.heap.size]?=some (.cells #[.int .i64 ex,.int .i64 ey,.int .i64 (zn:Nat)] 54 (0,0)):=(by rw[hg8.block _ (BO.1 EV7.out).1 (fun e=>I7.out.map.ne EV7.out (Option.some.inj e).symm)];exact EV7.out);obtain⟨u0,u1,u2⟩:=DY ev8;clear hm8 hg8 ev8)
          | (at_builtin;refine US Q8.out.1 rfl _ _ rfl rfl rfl (Ar w8 _) (by omega) Q8.out.2 ?_;intro g9 off9 cap9 w9 hq9 hg9;have I9:=Aa (I7.out.add hiK HM8.out E1.out MF1.out HG8.out hq9 hg9);have ED9:=Aa (PZ (ED8.out.alloc (.cells #[.int .i64 (zn:Nat)] 3)) Q8.out.1 hg9);clear hq9 hg9))
         go_roundg (el.length - (k+1))
         case measure=>omega
         case rel=>exact⟨k+1,_,by omega,by simp,by rw[HFN.out];exact I9,ED9⟩
       ·rw[hh]at HHAS;have E1:Hid (FN=FK):=Aa (by
         rw[VS.out];obtain⟨y,hy,hye⟩:=HHAS.out.1 rfl;exact if_neg (fun q=>q.2 y hy hye))
        go_wp2_with (at_lookup;refine FX I1.out.map rfl rfl rfl rfl WZ.out ?_;rw[hp1,hh];unfold It)
        go_roundg (el.length - (k+1))
        case measure=>omega
        case rel=>exact⟨k+1,f',by omega,by simp,by rw[HFN.out,E1.out];exact I2,ED2⟩
      ·obtain rfl:k=el.length:=by omega
       have hst:=HO5.out el.length (AQ _);have HB6:=Aa (HE.out el.length (AQ _));have h1:=HL.out;obtain⟨hle,-⟩:=hst;generalize EY inl el p F el.length=FK at*;clear HO5 HVS HG HE;go_wp2_with fail
       go_roundg (inl.length+1 - (i+1))
       case measure=>omega
       case rel=>exact⟨FK,i+1,f',by omega,by omega,IK,HB6,E⟩
  ·have E:=Aa (show RES=none by rw[HR.out];exact Sl hlt);have hn0:F.length - i=0:=by omega
   rw[hn0];clear hcell;go_wp2_with fail
   refine Bd (v:=.tuple #[.slice none 0 0,.bool false]) (by simp[results,Tryz.results84,go_sem]) rfl ?_;exact⟨_,by rw[E.out];rfl,by rw[E.out];exact CO _ _ _ _,B3.out.trans (HI.out.below.mono B3.out.size)⟩
theorem XF(v:Value)(g:Gr)(i:Int)(w:World)(h:Ao w v g):Calls Tryz.prog 31 #[v,.int .i64 i] w (IR w (AR g i)):=by
 have h4:=h.sS;have h6:=h.sT;obtain⟨sa,aa,ta,sc,ac,tc,rfl,hv⟩:=h.var;have hb:=Ae w (.cells #[.slice sa g.S.length sc,.slice aa g.A.length ac,.slice ta g.T.length tc] 32);have HN:=Aa (El _ g _ (h.below hb));by_cases h0:i<0
 ·have e:AR g i=[]:=by unfold AR;rw[if_neg (by omega)]
  rw[e];have HB:=Aa hb;clear h hv hb;go_enter Tryz.func31,Tryz.ntmps31;go_wp2_with fail
  go_ret;exact⟨_,rfl,CO _ _ _ _,HB.out⟩
 ·by_cases h1:i<(Ad g:Int)
  ·have hR:Rt g:=by
    cases hh:Bj g
    ·rw[Cp hh]at h1;omega
    ·exact(Aq g).1 hh
   have hn:=Ap hR;obtain⟨k,rfl⟩:∃k:Nat,i=(k:Int):=⟨i.toNat,by omega⟩;have hk:k+1<g.S.length:=by omega
   have e:AR g k=Lw g k:=by unfold AR;rw[if_pos ⟨(Aq g).2 hR,by omega,by omega⟩];simp
   rw[e];clear e;have hsl:=hR.stLe (i:=k) (j:=k+1) (by omega) (by omega);have hst:=hR.stTop (i:=k+1) (by omega);obtain⟨i0,hi0,hz0,hz1,hz2⟩:=CE Tryz.info54;have s0:=hv.hs k (by omega);rw[hR.st (by omega)]at s0;have s1:=hv.hs (k+1) hk;rw[hR.st hk]at s1;obtain⟨b,off,rfl,s0⟩:=s0;obtain⟨b',off',e,s1⟩:=s1;cases e;have c0:=hv.c0;have HB:=Aa hb;have HR:=Aa hR;have HV:=Aa hv;have hnk:¬Ad g≤k:=by omega
   clear h hv hb hR hn;go_enter Tryz.func31,Tryz.ntmps31;go_wp2_with (first
    | (go_at_call 30;refine HN.out.mono ?_;rintro e w1 ⟨rfl,hb1⟩;obtain⟨x0,y0,y1⟩:=JN hb1 c0 s0 s1;have HV1:=Aa (HV.out.below hb1);have HB1:=Aa (HB.out.trans (hb1.mono HB.out.size));clear hb1 c0 s0 s1))
   obtain⟨len,hlen⟩:∃n:Nat,st g (k+1)=st g k+n:=⟨st g (k+1) - st g k,by omega⟩;rw[hlen]at y1;have heds:Lw g k=Dy g k len:=by unfold Lw;congr 1;omega
   have HED:=Aa heds;clear heds;go_loopg [5,6] len (fun fu v c wr=>∃r:Nat,r+fu=len∧c=.int .i64 (st g k+r:Nat)∧wr.ownsRow w1.heap.size 54 3 v r (AA (Dy g k r))∧Below w1.heap.size w1 wr)
   case atStart=>exact⟨0,by omega,rfl,⟨rfl,.inl ⟨rfl,rfl⟩⟩,Ak _ _⟩
   case round=>
    obtain⟨r,hr,rfl,ho,hb⟩:=hrel;have z0:=Af hb x0;have z1:=Af hb y1;have e1:IntKind.i64.wrap ((k:Int)+1)=((k+1:Nat):Int):=by rw[DS _ (by omega)];simp
    by_cases hlt:r<len
    ·generalize hp:st g k+r=p at*;have hkT:p<g.T.length:=by omega
     have hkA:p<g.A.length:=by rw[HR.out.lens];exact hkT
     have c1:=Af hb HV1.out.c1;have c2:=Af hb HV1.out.c2;obtain⟨ba,oa,rfl,a0⟩:=HV1.out.ha p hkA;obtain⟨bt,ot,rfl,t0⟩:=HV1.out.ht p hkT;have a1:=Af hb a0;have t1:=Af hb t0;have hnext:Dy g k (r+1)=Dy g k r++[edge g k p]:=by rw[Jm,hp]
     have b1:(p:Int)<(g.A.length:Int):=by omega
     have b2:(p:Int)<(g.T.length:Int):=by omega
     have b3:(p:Int)<(st g k:Int)+(len:Int):=by omega
     have hedge:edge g k p=((k:Int),g.A.getD p 0,g.T.getD p 0):=rfl;rw[hedge]at hnext;generalize g.A.getD p 0=xa at*;generalize g.T.getD p 0=xt at*;have HO:=Aa ho;have HBB:=Aa hb;have HP:=Aa hp;have HX:=Aa hnext;have hsz:=hb.size;have M1:Hid (r+1≤maxLen):=Aa (by unfold maxLen;omega);have M2:Hid ((r+1)*24≤140737488355328):=Aa (by omega);clear ho hb hp hnext hedge a0 t0 hlen;go_wp2_with fail
     go_region_law (refine step_append_lies ((wr.alloc (.cells #[.int .i64 k,.int .i64 xa,.int .i64 xt] 54)).drew) rfl (.tmp 30) (.tmp 43) 55 rfl w1.heap.size 54 i0 (.agg #[.int .i64 0,.int .i64 0,.int .i64 0]) 3 24 Tryz.underlying55 hi0 hz0 hz1 hz2 rfl (by decide) u5 r (AA (Dy g k r)) (by simp[Act.eval]) (HO.out.alloc _) ⟨wr.heap.size,0,none⟩ 1 1 [.int .i64 k,.int .i64 xa,.int .i64 xt] (by simp[Act.eval]) rfl (World.news_of_block (Ar wr _)) (by simp[Value.oneCell']) Nat.one_pos M1.out M2.out (HBB.out.alloc HBB.out.size _).size (wr.heap.size+1) (by simp) ?_;intro g2 cap2 w4 hown2 hgr2 hor2 hlt2;have HB4:=Aa (Lv HBB.out HO.out hgr2);have HO4:=Aa hown2;clear hgr2 hown2)
     clear e1;all_goals go_wp2_with fail
     all_goals go_roundg (gk - 1)
     all_goals first
      | omega
      | exact⟨r+1,by omega,by have:=HP.out;simp;omega,Jj HX.out HO4.out,HB4.out⟩
    ·obtain rfl:gk=0:=by omega
     obtain rfl:r=len:=by omega
     have Q:=Aa (And.intro (show wr.ownsRow w1.heap.size 54 3 u5 (Dy g k r).length (AA (Dy g k r)) by rw[Ho];exact ho) hb);clear ho hb e1;go_wp2_with fail
     go_ret;exact⟨_,rfl,HED.out▸Gk Q.out.1 HB1.out.size,HB1.out.trans (Q.out.2.mono HB1.out.size)⟩
  ·have e:AR g i=[]:=by
    unfold AR;rw[if_neg];rintro⟨e1,e2,e3⟩;rw[Ap ((Aq g).1 e1)]at h1;omega
   rw[e];have HB:=Aa hb;clear h hb hv e;go_enter Tryz.func31,Tryz.ntmps31;go_wp2_with (first
    | (go_at_call 30;refine HN.out.mono ?_;rintro e w1 ⟨rfl,hb1⟩;have HB1:=Aa (HB.out.trans (hb1.mono HB.out.size));clear hb1))
   go_ret;exact⟨_,rfl,CO _ _ _ _,HB1.out⟩
inductive RO
 | eq (x:Value)
 | own (B:Nat) (l:List Ed)
def RO.rel:RO→Value→World→Prop
 | .eq x,v,_=>v=x
 | .own B l,v,w=>w.ownsRow B 54 3 v l.length (AA l)
theorem RO.mono(k:RO){v:Value}{w w':World}(hb:Below w.heap.size w w')(h:k.rel v w):k.rel v w':=by
 cases k with
 | eq x=>exact h
 | own B l=>exact Al (F:=fun _=>False) h (Df hb _) (fun _ _=>id)
def gD(L:List RO)(i:Nat)(v:Value)(w:World):Prop:=(L.getD i (.eq undef)).rel v w
theorem KF(w:World)(r:Option Nat):w.grownBy w r:=⟨rfl,rfl,rfl,AQ _,fun _ _ _=>rfl⟩
theorem PH{w:World}(a:Option Addr)(n c ty:Nat)(xv:Value)(hx:∃ao co,xv=.slice ao 0 co)(hc:n≤c)(h:a=none∨∃b off,a=some ⟨b,off,none⟩):
 (Builtin.append_ #[22,22] ty #[.slice a n c,xv]).run Tryz.prog w=.ok (.slice a n c) w:=by
 obtain⟨i0,hi0,hz0,hz1,hz2⟩:=CE Tryz.info3;obtain⟨ao,co,rfl⟩:=hx;have hs:Go.Src Tryz.prog i0.size 22 (.slice ao 0 co) 0 [] w:=by
  cases ao with
  | none=>exact Go.Src.ofNil w Tryz.underlying22 co
  | some x=>exact Go.Src.ofSlice w Tryz.underlying22 x 0 co [] (by simp) (fun j u hu=>by simp at hu) (fun _ hu=>by cases hu)
 rcases h with rfl | ⟨b,off,rfl⟩
 ·simp[Builtin.append_,run_underlying Tryz.underlying22,sizeOf,typeInfo,hi0,hs.len,hc,hs.cells]
 ·have:=run_append_room_src w 22 22 ty 3 i0 Tryz.underlying22 hi0 b off n c (.slice ao 0 co) 0 [] hs (by omega) (by simp) (by simp);exact this
theorem Ye{w:World}{base:Nat}{v:Value}{xs:List Int}{n:Nat}(h:w.ownsRow base 3 1 v n (xs.map (Value.int .i64)))(ty:TypeId){xv:Value}{row:List Int}(hx:Am w xv row)(hn:n≤1000000000)(hr:row.length≤1000000000)(hbase:base≤w.heap.size):
 ∃a cap w',(Builtin.append_ #[22,22] ty #[v,xv]).run Tryz.prog w=.ok (.slice a (n+row.length) cap) w'∧w'.ownsRow base 3 1 (.slice a (n+row.length) cap) (n+row.length) ((xs++row).map (Value.int .i64))∧w.grownBy w' v.ownBlock∧
  (∀k,Value.ownBlock (.slice a (n+row.length) cap)=some k→v.ownBlock=some k∨k=w.heap.size)∧(xs++row=[]→v=.slice none 0 0→Value.slice a (n+row.length) cap=.slice none 0 0):=by
 obtain⟨i0,hi0,hz0,hz1,hz2⟩:=CE Tryz.info3;obtain⟨xa,xc,rfl,hxc⟩:=hx;by_cases hr0:row.length=0
 ·have e:row=[]:=List.eq_nil_of_length_eq_zero hr0;subst e;have h':=h;obtain⟨hl,h2⟩:=h';rcases h2 with⟨rfl,rfl⟩ | ⟨g,cap,cur,rfl,hb,hg,hn',hc,hs,ht⟩
  ·refine⟨none,0,w,PH none 0 0 ty _ ⟨_,_,rfl⟩ (AQ _) (.inl rfl),?_,KF w _,fun k hk=>(by cases hk),fun _ _=>rfl⟩;rw[List.append_nil];exact h
  ·refine⟨some ⟨g,0,none⟩,cap,w,PH _ n cap ty _ ⟨_,_,rfl⟩ hn' (.inr ⟨g,0,rfl⟩),?_,KF w _,fun k hk=>.inl hk,fun _ e=>by cases e⟩;rw[List.append_nil];exact h
 ·obtain⟨b,off,rfl,-⟩:=hxc 0 (by omega);have hnews:∀j u,(row.map (Value.int .i64))[j]?=some u→w.cell? ((⟨b,off,none⟩:Addr).add j)=some u:=fun j u hu=>by
   have hj:j<row.length:=by
    rcases Nat.lt_or_ge j row.length with q | q
    ·exact q
    ·rw[List.getElem?_eq_none (by simpa using q)]at hu;cases hu
   obtain⟨b',o',e,hcl⟩:=hxc j hj;cases e;rw[Go.WideShapes.add_plain,hcl,← hu];simp[AM,hj]
  obtain⟨g,cap,w',q1,q2,q3,q4,q5⟩:=run_append_lies (P:=Tryz.prog) w 22 ty base 3 i0 (.int .i64 0) 1 8 Tryz.underlying22 hi0 hz0 hz1 hz2 rfl (by decide) v n _ h ⟨b,off,none⟩ row.length xc (row.map (Value.int .i64)) (by simp) hnews (fun u hu=>by obtain⟨y,-,rfl⟩:=DJ.1 hu;rfl) (by omega) (by unfold maxLen;omega) (by omega) hbase w.heap.size rfl;refine⟨_,_,w',q1,by rw[Ec];exact q2,q3,fun k hk=>?_,fun e _=>?_⟩
  ·obtain rfl:g=k:=by simpa[Value.ownBlock]using hk
   exact q4
  ·exact absurd (by rw[(List.append_eq_nil_iff.1 e).2];rfl) hr0
section
variable {ops:Array Oper} {rest:List Oper} {o:Oper} {a:Act} {Q:Exit→Act→World→Prop}
theorem Jr {w:World} {base:Nat} {v:Value} {xs:List Int} {n:Nat} (h:w.ownsRow base 3 1 v n (xs.map (Value.int .i64))) (hg:o.guard=none) (s x:Operand) (hop:o.op=.call {callee:=.builtin .append,args:=#[s,x],argTypes:=#[22,22]}) (hs:a.eval s=v) {xv:Value} {row:List Int}
 (hxe:a.eval x=xv) (hx:Am w xv row) (m:Nat) (hm:n+row.length=m) (hn:m≤1000000000) (hbase:base≤w.heap.size)
 (hK:∀ad cap w',w'.ownsRow base 3 1 (.slice ad m cap) m ((xs++row).map (Value.int .i64))→w.grownBy w' v.ownBlock→(∀k,Value.ownBlock (.slice ad m cap)=some k→v.ownBlock=some k∨k=w.heap.size)→(xs++row=[]→v=.slice none 0 0→Value.slice ad m cap=.slice none 0 0)→wpList Tryz.prog ops Q rest (a.put o.dst (.slice ad m cap)) w'):wpList Tryz.prog ops Q (o::rest) a w:=by
 refine wpList_plain hg fun K' hK'=>?_;obtain⟨ad,cap,w',hr,h2,h3,h4,h5⟩:=Ye h o.type hx (by omega) (by omega) hbase;unfold Oper.wp execOp;simp only[hop,resolve,invoke,builtin,Sem.run_bind,Sem.run_pure,Result.andThen_ok,List.map_toArray,List.map_cons,List.map_nil,hs,hxe,hr];rw[hm]at h2 h4 h5 ⊢;exact hK' _ _ (hK ad cap w' h2 h3 h4 h5)
end
theorem Zt(inl:List Bool)(u:Value)(k:Nat)(w:World)(hu:Bc w u inl):
 Calls Tryz.prog 78 #[u,.int .i64 (k:Nat)] w fun e w'=>e=.returned (.bool (Cz inl (k:Int)))∧Below w.heap.size w w':=by
 obtain⟨a,c,rfl,hc⟩:=hu;by_cases hlt:k<inl.length
 ·obtain⟨b2,o2,rfl,d⟩:=hc k hlt;have z:(k:Int)<(inl.length:Int):=by omega
  have E:Cz inl (k:Int)=inl.getD k false:=by unfold Cz;rw[Ck z,BT];rfl
  rw[E];clear hc E;generalize inl.getD k false=x at*;go_enter Tryz.func78,Tryz.ntmps78;go_wp2_with fail
  go_ret;exact⟨rfl,Ak _ _⟩
 ·have z:¬(k:Int)<(inl.length:Int):=by omega
  have E:Cz inl (k:Int)=false:=by unfold Cz;rw[Cj z];rfl
  rw[E];clear hc E;go_enter Tryz.func78,Tryz.ntmps78;go_wp2_with fail
  go_ret;exact⟨rfl,Ak _ _⟩
structure Qk(w0 wr:World)(F:FS)(fv pv:Value)(vals:List Value):Prop where
 below:Below w0.heap.size w0 wr
 fo:wr.ownsRow w0.heap.size 3 1 fv F.length ((F.map (fun y=>y.1)).map (Value.int .i64))
 po:BS wr w0.heap.size pv (F.map (fun y=>y.2)) vals
 off:∀j,j<F.length→∀q,fv.ownBlock=some q→(vals.getD j undef).ownBlock≠some q
 nil:∀j,j<F.length→(F.getD j (0,[])).2=[]→vals.getD j undef=.slice none 0 0
theorem Yy{F:FS}{j:Nat}(_h:j<F.length):(F.map (fun y=>y.2)).getD j []=(F.getD j (0,[])).2:=by
 simp[AM,_h]
theorem Qk.more{w0 wr w':World}{F:FS}{fv pv:Value}{vals:List Value}(h:Qk w0 wr F fv pv vals)(hb:Below wr.heap.size wr w'):Qk w0 w' F fv pv vals:=
 ⟨h.below.trans (hb.mono h.below.size),Al (F:=fun _=>False) h.fo (Df hb _) (fun _ _=>id),h.po.more hb,h.off,h.nil⟩
theorem Qk.drew{w0 wr:World}{F:FS}{fv pv:Value}{vals:List Value}(h:Qk w0 wr F fv pv vals):Qk w0 wr.drew F fv pv vals:=h.more (Ak _ _).drew
theorem Qk.push {w0 wA w3 w4 w5:World} {F:FS} {fv pv nv:Value} {vals:List Value} {t:Int} {q:List Int} {n:Nat} (h:Qk w0 wA F fv pv vals) (hn:F.length=n) (hA:Below wA.heap.size wA w3) (hp:w3.ownsRow wA.heap.size 3 1 nv q.length (q.map (Value.int .i64))) (hq:q≠[])
 {o4 o5:Obj} {gf capf gp capp:Nat} (hg4:(w3.alloc o4).grownBy w4 fv.ownBlock) (hof:w4.ownsRow w0.heap.size 3 1 (.slice (some ⟨gf,0,none⟩) (n+1) capf) (n+1) ((F.map (fun y=>y.1)).map (Value.int .i64)++[.int .i64 t])) (horf:fv.ownBlock=some gf∨gf=w3.heap.size+1)
 (hg5:(w4.alloc o5).grownBy w5 pv.ownBlock) (hop:w5.ownsRow w0.heap.size 22 1 (.slice (some ⟨gp,0,none⟩) (n+1) capp) (n+1) (vals++[nv])) (horp:pv.ownBlock=some gp∨gp=w4.heap.size+1):
 Qk w0 w5 (F++[(t,q)]) (.slice (some ⟨gf,0,none⟩) (n+1) capf) (.slice (some ⟨gp,0,none⟩) (n+1) capp) (vals++[nv]):=by
 subst hn;have hsA:=h.below.size;have h3:=h.more hA;have hs3:=hA.size;have hs4:=hg4.size;rw[World.size_alloc]at hs4;have hs5:=hg5.size;rw[World.size_alloc]at hs5;have hfl:∀k,fv.ownBlock=some k→w0.heap.size≤k∧k<wA.heap.size:=fun k hk=>h.fo.lt k hk;have hpl:∀k,pv.ownBlock=some k→w0.heap.size≤k∧k<wA.heap.size:=fun k hk=>h.po.out.lt k hk;have hfp:∀k,fv.ownBlock=some k→pv.ownBlock≠some k:=fun k h1 h2=>by
  obtain⟨c1,e1⟩:=Ca h.fo h1;obtain⟨c2,e2⟩:=Ca h.po.out h2;rw[e1]at e2;cases e2
 have hnv:∀k,nv.ownBlock=some k→wA.heap.size≤k∧k<w3.heap.size:=fun k hk=>hp.lt k hk
 -- behind the append of the node
 have hf4:Bn (fun k=>fv.ownBlock=some k) w3 w4:=((Bn.refl _ w3).alloc o4).grown hg4 (fun k hk _=>hk);have po4:BS w4 w0.heap.size pv (F.map (fun y=>y.2)) vals:=h3.po.frm hf4 (fun k h1 h2=>hfp k h2 h1) (fun j hj k h1 h2=>h.off j (by simpa using hj) k h2 h1);have nv4:w4.ownsRow wA.heap.size 3 1 nv q.length (q.map (Value.int .i64)):=Al hp hf4 (fun k h1 h2=>by have:=hnv k h1;have:=hfl k h2;omega);have b4:Below w0.heap.size w0 w4:=h3.below.trans (hf4.below (fun k hk=>(hfl k hk).1) h3.below.size)
 -- behind the append of the way
 have hf5:Bn (fun k=>pv.ownBlock=some k) w4 w5:=((Bn.refl _ w4).alloc o5).grown hg5 (fun k hk _=>hk);have hgf:gf<w4.heap.size:=(hof.lt gf rfl).2;have hgfn:pv.ownBlock≠some gf:=fun e=>by
  rcases horf with e2 | e2
  ·exact hfp gf e2 e
  ·have:=hpl gf e;omega
 have fo5:=Al hof hf5 (fun k h1 h2=>by
  obtain rfl:gf=k:=by simpa[Value.ownBlock]using h1
  exact hgfn h2)
 have hlen:=h.po.len;rw[Fi]at hlen;have po5:=(po4.more (Ae w4 o5)).push (nv:=nv) (row:=q) hg5 (by simpa using horp) (by simpa using hop) (Gk (nv4.alloc o5) (by omega)) (fun k h1 h2=>by have:=hnv k h1;have:=hpl k h2;omega) (fun j hj k h1 h2=>by
  have:=hnv k h1;have:=((h.po.inn j (by simpa using hj)).lt k h2).2;omega)
 refine⟨b4.trans (hf5.below (fun k hk=>(hpl k hk).1) b4.size),by simpa using fo5,by simpa using po5,fun j hj k hk=>?_,fun j hj he=>?_⟩
 ·obtain rfl:gf=k:=by simpa[Value.ownBlock]using hk
  rw[Bs,List.length_singleton]at hj;rw[Ei _ _ _ _ (by omega),hlen];by_cases e1:j<F.length
  ·rw[if_pos e1];intro e2;rcases horf with e3 | e3
   ·exact h.off j e1 gf e3 e2
   ·have:=((h.po.inn j (by simpa using e1)).lt gf e2).2;omega
  ·rw[if_neg e1];intro e2;have h1:=hnv gf e2;rcases horf with e3 | e3
   ·have:=hfl gf e3;omega
   ·omega
 ·rw[Bs,List.length_singleton]at hj;rw[DH (by omega)]at he;rw[Ei _ _ _ _ (by omega),hlen];by_cases e1:j<F.length
  ·rw[if_pos e1]at he ⊢;exact h.nil j e1 he
  ·rw[if_neg e1]at he;exact absurd he hq
theorem Qk.lit{w0 wr:World}{F:FS}{fv pv:Value}{vals:List Value}(h:Qk w0 wr F fv pv vals)(h0:0<F.length):∃bf cf bp cp,fv=.slice (some ⟨bf,0,none⟩) F.length cf∧pv=.slice (some ⟨bp,0,none⟩) F.length cp∧
 (∀j,j<F.length→wr.cell? ⟨bf,j,none⟩=some (.int .i64 (F.getD j (0,[])).1))∧(∀j,j<F.length→wr.cell? ⟨bp,j,none⟩=some (vals.getD j undef)):=by
 have hp:=h.po.out;rw[Fi]at hp;obtain⟨bf,f1,⟨cf,f2⟩,-⟩:=BL h.fo h0;obtain⟨bp,p1,⟨cp,p2⟩,-⟩:=BL hp h0;refine⟨bf,cf,bp,cp,f2,p2,fun j hj=>?_,fun j hj=>?_⟩
 ·obtain⟨b,e1,-,e2⟩:=BL h.fo hj;rw[f1]at e1;cases e1;rw[e2];simp[AM,hj]
 ·obtain⟨b,e1,-,e2⟩:=BL hp hj;rw[p1]at e1;cases e1;exact e2
theorem Qk.start(w0:World)(src:Int):Qk w0 ((w0.alloc (.cells #[.int .i64 src] 3)).alloc (.cells #[.slice none 0 0] 22)) [(src,[])] (.slice (some ⟨w0.heap.size,0,none⟩) 1 1) (.slice (some ⟨w0.heap.size+1,0,none⟩) 1 1) [.slice none 0 0]:=by
 have b1:=Ae w0 (.cells #[.int .i64 src] 3);have b2:=Ae (w0.alloc (.cells #[.int .i64 src] 3)) (.cells #[.slice none 0 0] 22);have x2:((w0.alloc (.cells #[.int .i64 src] 3)).alloc (.cells #[.slice none 0 0] 22)).heap[w0.heap.size+1]?=some (.cells #[.slice none 0 0] 22 (0,0)):=by
  have:=Ar (w0.alloc (.cells #[.int .i64 src] 3)) (.cells #[.slice none 0 0] 22);rwa [World.size_alloc]at this
 refine⟨b1.trans (b2.mono b1.size),⟨rfl,.inr ⟨w0.heap.size,1,#[.int .i64 src],rfl,AQ _,Ah b2 (Ar _ _),AQ _,by decide,rfl,rfl⟩⟩,?_,?_,?_⟩
 ·refine⟨rfl,⟨rfl,.inr ⟨w0.heap.size+1,1,#[.slice none 0 0],rfl,by omega,x2,AQ _,by decide,rfl,rfl⟩⟩,fun j hj=>?_,fun j k hjk hj hk=>?_,fun j hj q hq=>?_⟩
  ·obtain rfl:j=0:=by simp at hj;omega
   exact CO _ _ _ _
  ·simp at hj hk;omega
  ·obtain rfl:j=0:=by simp at hj;omega
   simp[Value.ownBlock]
 ·intro j hj q hq;obtain rfl:j=0:=by simp at hj;omega
  simp[Value.ownBlock]
 ·intro j hj _;obtain rfl:j=0:=by simp at hj;omega
  rfl
theorem LF{w w':World}{B base n m:Nat}{e:TypeId}{size:Nat}{v fv:Value}{xs ys:List Value}(ho:w.ownsRow B 54 3 v n xs)(hf:w.ownsRow base e size fv m ys)(hne:e≠54)(hg:w.grownBy w' fv.ownBlock):w'.ownsRow B 54 3 v n xs:=by
 refine ho.kept hg ?_;rcases e1:v.ownBlock with _ | k
 ·exact .inl rfl
 ·refine .inr (fun e2=>?_);obtain⟨c1,h1⟩:=Ca ho e1;obtain⟨c2,h2⟩:=Ca hf e2.symm;rw[h1]at h2;cases h2;exact hne rfl
theorem Qg{F:FS}{j:Nat}(h:j<F.length):F.take (j+1)=F.take j++[F.getD j (0,[])]:=by
 rw[List.take_add_one,AM,Bf h];rfl
def Lg(F:FS)(z:Int)(j:Nat):Bool:=(F.take j).any (fun y=>y.1==z)
theorem WY{F:FS}{z:Int}{j:Nat}(h:j<F.length):Lg F z (j+1)=(Lg F z j || (F.getD j (0,[])).1==z):=by
 unfold Lg;rw[Qg h];simp
theorem BI.short{g:Gr}{inl:List Bool}{src:Int}{F:FS}(h:BI g inl src F):∀n j,j≤n→j<F.length→(F.getD j (0,[])).2.length≤j:=by
 intro n
 induction n with
 | zero=>
  intro j hj hl;obtain rfl:j=0:=by omega
  rw[h.hd];exact AQ _
 | succ n ih=>
  intro j hj hl;by_cases e:j=0
  ·subst e;rw[h.hd];exact AQ _
  ·obtain⟨i,a,q1,q2,-⟩:=h.par j (by omega) hl;have:=ih i (by omega) (by omega);rw[q2,Bs,List.length_singleton];omega
theorem Qk.paths{w0 w3 w4:World}{F:FS}{fv pv:Value}{vals:List Value}(h:Qk w0 w3 F fv pv vals){o4:Obj}(hg4:(w3.alloc o4).grownBy w4 fv.ownBlock):w4.ownsRow w0.heap.size 22 1 pv F.length vals∧w0.heap.size≤w4.heap.size:=by
 have hf4:Bn (fun k=>fv.ownBlock=some k) w3 w4:=((Bn.refl _ w3).alloc o4).grown hg4 (fun k hk _=>hk);have hp:=h.po.out;rw[Fi]at hp;refine⟨Al hp hf4 (fun k h1 h2=>?_),by have:=hg4.size;have:=h.below.size;simp at*;omega⟩;obtain⟨c1,e1⟩:=Ca h.fo h2;obtain⟨c2,e2⟩:=Ca hp h1;rw[e1]at e2;cases e2
theorem Ss(w:World)(y:Int):Am (w.alloc (.cells #[.int .i64 y] 3)) (.slice (some ⟨w.heap.size,0,none⟩) 1 1) [y]:=
 ⟨_,_,rfl,fun j hj=>⟨_,0,rfl,by
  obtain rfl:j=0:=by simp at hj;omega
  exact Ab (Ar w _) 0 _ rfl⟩⟩
theorem Xu{F:FS}{z:Int}(h:Lg F z F.length=false):∀y∈F,y.1≠z:=by
 unfold Lg at h;rw[Ez]at h;intro y hy e;have:=List.any_eq_false.1 h y hy;simp[e]at this
theorem WJ{F:FS}{z:Int}(h:Lg F z F.length=true):∃y∈F,y.1=z:=by
 unfold Lg at h;rw[Ez]at h;obtain⟨y,hy,e⟩:=List.any_eq_true.1 h;exact⟨y,hy,by simpa using e⟩
end Go.Proofs.YtlhpjfnfemebdaaGreat
