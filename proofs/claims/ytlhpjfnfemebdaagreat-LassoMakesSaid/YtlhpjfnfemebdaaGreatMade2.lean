/- edges.made: the graph of a right one's edges, each as it is -/
import Derived.Test.YtlhpjfnfemebdaaGreatOut
import Derived.Test.YtlhpjfnfemebdaaGreatRBuild
import Derived.Deep.RegionWith
import Derived.Deep.DeepCutAuto
set_option maxRecDepth 100000
set_option maxHeartbeats 64000000
namespace Go.Proofs.YtlhpjfnfemebdaaGreat
open Go.RowKit
abbrev gE(e:Ed):Value:=.agg #[.int .i64 e.1,.int .i64 e.2.1,.int .i64 e.2.2]
structure XB(M:Nat)(caps:Array Value)(w0:World)(f:Ed→Ed×Bool):Prop where
 enters:Enters Tryz.prog M
 ok:∀(e:Ed) (w':World),0≤e.1→0≤e.2.2→Below w0.heap.size w0 w'→Calls Tryz.prog M (#[gE e]++caps) w' fun en w''=>en=.returned (.tuple #[gE (f e).1,.bool (f e).2])∧Below w'.heap.size w' w''
theorem QU.more{W:World}{lv:Nat}{l:List Ed}{w w':World}(h:QU W lv l w)(hb:Below w.heap.size w w'):QU W lv l w':=by
 obtain⟨v,h1,h2⟩:=h.own;have hs:=h.frm.size;exact⟨h.frm.trans (Df hb _),v,Ah hb h1,Al (F:=fun _=>False) h2 (Df hb _) (fun _ _=>id)⟩
def BA(f:Ed→Ed×Bool)(l:List Ed):List Ed:=(l.filter (fun e=>(f e).2)).map (fun e=>(f e).1)
theorem Kf(f:Ed→Ed×Bool)(l k:List Ed):BA f (l++k)=BA f l++BA f k:=by simp[BA]
theorem Po(f:Ed→Ed×Bool)(e:Ed):BA f [e]=if(f e).2=true then [(f e).1] else []:=by
 by_cases h:(f e).2=true <;> simp[BA,h]
theorem Pe(f:Ed→Ed×Bool)(l:List Ed):(BA f l).length≤l.length:=by
 unfold BA;rw[Fi];exact(List.filter_sublist).length_le
def JI(g:Gr)(f:Ed→Ed×Bool):Gr:=if Bj g=true then Ai (Ad g:Nat) (BA f (Av g)) else⟨[],[],[]⟩
theorem Lf{g:Gr}(h:Bj g=false)(f:Ed→Ed×Bool):JI g f=⟨[],[],[]⟩:=by unfold JI;rw[h];rfl
theorem Fg{g:Gr}(h:Rt g)(f:Ed→Ed×Bool):JI g f=Ai (Ad g:Nat) (BA f (Av g)):=by unfold JI;rw[if_pos ((Aq g).2 h)]
theorem VO {W:World} {lv:Nat} {l:List Ed} {w':World} {v:Value} (hlv:lv<W.heap.size) (hf:Bn (fun k=>k=lv) W w') (h1:w'.heap[lv]?=some (.cells #[v] 55 (0,0))) (h2:w'.ownsRow W.heap.size 54 3 v l.length (AA l))
 {o1:Obj} {w4:World} (hg:(w'.alloc o1).grownBy w4 v.ownBlock):w4.cell? ⟨lv,0,none⟩=some v∧w4.frozen? ⟨lv,0,none⟩=false∧Bn (fun k=>k=lv) W w4∧w4.heap[lv]?=some (.cells #[v] 55 (0,0)):=by
 have hne:∀k,v.ownBlock=some k→W.heap.size≤k:=fun k hk=>(h2.lt k hk).1;have hlt:lv<w'.heap.size:=(BO.1 h1).1;have h3:(w'.alloc o1).heap[lv]?=some (.cells #[v] 55 (0,0)):=Ah (Ae _ _) h1;have h4:w4.heap[lv]?=some (.cells #[v] 55 (0,0)):=by
  rw[hg.block lv (by simp;omega) (fun e=>by have:=hne lv e.symm;omega)];exact h3
 refine⟨Ab h4 0 _ rfl,Ag h4 0,?_,h4⟩;exact(hf.alloc o1).grown hg (fun k hk hlt=>by have:=hne k hk;omega)
theorem Zw (M:Nat) (caps:Array Value) (w0:World) (f:Ed→Ed×Bool) (T:XB M caps w0 f) (W:World) (lv tb:Nat) (l:List Ed) (e:Ed) (w:World) (hW:Below w0.heap.size w0 W) (hlv0:w0.heap.size≤lv) (hlv:lv<W.heap.size)
 (htb:W.heap[tb]?=some (.cells #[.func (.func M) #[] caps] 160 (0,0))) (hne0:tb≠lv) (h:QU W lv l w) (hl:l.length<1000000) (he1:0≤e.1) (he2:0≤e.2.2):
 Calls Tryz.prog 119 #[gE e,.pointer (some ⟨tb,0,none⟩),.pointer (some ⟨lv,0,none⟩)] w fun en w'=>en=.returned (.tuple #[])∧QU W lv (l++BA f [e]) w':=by
 obtain⟨i0,hi0,hz0,hz1,hz2⟩:=CE Tryz.info54;obtain⟨x,y,z⟩:=e;have hE':∀(args:Array Value) (w:World),(callFunc M args).run Tryz.prog w=.ok (.enter M args) w:=T.enters;have hA:=h.more (Ae w (.cells #[.int .i64 x,.int .i64 y,.int .i64 z] 54));have c0:=Ab (hA.frm.heap htb hne0) 0 _ rfl;have hsz:=h.frm.size;have hB0:Below w0.heap.size w0 (w.alloc (.cells #[.int .i64 x,.int .i64 y,.int .i64 z] 54)):=hW.trans (hA.frm.below (fun k hk=>by subst hk;exact hlv0) hW.size);have HT:=Aa (T.ok (x,y,z) _ he1 he2 hB0);have HA:=Aa hA;rw[Po];cases hf:(f (x,y,z)).2
 ·rw[hf]at HT;generalize (f (x,y,z)).1=r at*;obtain⟨rx,ry,rz⟩:=r;clear h hA hf htb;go_enter Tryz.func119,Tryz.ntmps119;go_wp2_with (go_at_fn M;refine HT.out.mono ?_;rintro en w1 ⟨rfl,hb1⟩)
  go_end0
  exact⟨rfl,(HA.out.more hb1).more (Ae _ _)⟩
 ·rw[hf]at HT;generalize (f (x,y,z)).1=r at*;obtain⟨rx,ry,rz⟩:=r;clear h hA hf htb;go_enter Tryz.func119,Tryz.ntmps119;go_wp2_with (first
   | (go_at_fn M;refine HT.out.mono ?_;rintro en w1 ⟨rfl,hb1⟩;have hA1:=(HA.out.more hb1).more (Ae w1 (.cells #[.int .i64 rx,.int .i64 ry,.int .i64 rz] 54));have hsz1:=hA1.frm.size;obtain⟨v,h1,h2⟩:=hA1.own;have d0:=Ab h1 0 _ rfl;have H1:=Aa h1;have H2:=Aa h2;have HF:=Aa hA1.frm;have hne:lv≠w1.heap.size:=(by have:=(HA.out.more hb1).frm.size;omega);clear h1 h2 hA1)
   | (at_builtin;refine wpList_append_lies ((w1.alloc (.cells #[.int .i64 rx,.int .i64 ry,.int .i64 rz] 54)).alloc (.cells #[.int .i64 rx,.int .i64 ry,.int .i64 rz] 54)) rfl (.tmp 13) (.tmp 15) 55 rfl W.heap.size 54 i0 (.agg #[.int .i64 0,.int .i64 0,.int .i64 0]) 3 24 Tryz.underlying55 hi0 hz0 hz1 hz2 rfl (by decide) v l.length (AA l) rfl (H2.out.alloc _) ⟨w1.heap.size+1,0,none⟩ 1 1 [.int .i64 rx,.int .i64 ry,.int .i64 rz] rfl rfl (World.news_of_block (AG _ _ _ (by simp))) (by simp[Value.oneCell']) (by omega) (by unfold maxLen;omega) (by omega) (by simp at hsz1 ⊢;omega) (w1.heap.size+1+1) (by simp) ?_;intro g2 cap2 w4 hown2 hgr2 hor2 hlt2;obtain⟨q0,q1,q2,q3⟩:=VO hlv HF.out H1.out H2.out hgr2;have HO:=Aa hown2;clear hgr2 hown2))
  go_end0
  exact⟨rfl,Tc (e:=(rx,ry,rz)) hlv q2 q3 HO.out⟩
theorem Vn {M:Nat} {caps:Array Value} {w0:World} {f:Ed→Ed×Bool} (T:XB M caps w0 f) {g:Gr} {v:Value} {w2:World} {lv tb:Nat} (hg:Ao w0 v g) (hR:Rt g) (hb:Below w0.heap.size w0 w2) (hlv:w0.heap.size≤lv) (hl2:w2.heap[lv]?=some (.cells #[.slice none 0 0] 55 (0,0)))
 (htb:w2.heap[tb]?=some (.cells #[.func (.func M) #[] caps] 160 (0,0))) (hne:tb≠lv):
 Calls Tryz.prog 104 #[v,.int .i64 0,.int .i64 (Ad g:Nat),.func (.func 119) #[] #[.pointer (some ⟨tb,0,none⟩),.pointer (some ⟨lv,0,none⟩)]] w2 fun e w'=>e=.returned (.tuple #[])∧
  ∃v',w'.heap[lv]?=some (.cells #[v'] 55 (0,0))∧Ax w' v' (BA f (Av g))∧Bn (fun k=>k=lv) w2 w':=by
 have h4:=hg.sS;have h6:=hg.sT;have hE:Enters Tryz.prog 119:=enters_of Tryz.func119 (by kernel_rfl) rfl;obtain⟨sa,aa,ta,sc,ac,tc,rfl,-⟩:=hg.var;have hlt:lv<w2.heap.size:=(BO.1 hl2).1;have hbx:=Ae w2 (.cells #[.slice sa g.S.length sc,.slice aa g.A.length ac,.slice ta g.T.length tc] 32);have hW:Below w0.heap.size w0 (w2.alloc (.cells #[.slice sa g.S.length sc,.slice aa g.A.length ac,.slice ta g.T.length tc] 32)):=hb.trans (hbx.mono hb.size);have hBel:∀(F:Nat→Prop) w',(∀k,F k→w0.heap.size≤k)→Bn F (w2.alloc (.cells #[.slice sa g.S.length sc,.slice aa g.A.length ac,.slice ta g.T.length tc] 32)) w'→Below w0.heap.size w0 w':=fun F w' hF hf=>
  hW.trans (hf.below hF hW.size)
 have hn:=Ap hR;have hne':=hR.ne;have e0:Av g=Du g 0 (Ad g):=by rw[CM hR,hn]
 rw[e0];have key:=QD (sa:=sa) (aa:=aa) (ta:=ta) (sc:=sc) (ac:=ac) (tc:=tc) (w:=w2) hR h4 h6 119 hE #[.pointer (some ⟨tb,0,none⟩),.pointer (some ⟨lv,0,none⟩)] 0 (Ad g) (Ad g:Nat) (by simp) (by omega)
  (fun pre w'=>QU (w2.alloc (.cells #[.slice sa g.S.length sc,.slice aa g.A.length ac,.slice ta g.T.length tc] 32)) lv (BA f pre) w') ?_ ?_ ?_ ?_
 ·refine key.mono ?_;rintro e w' ⟨rfl,h⟩;obtain⟨hf,v',h1,h2⟩:=h;exact⟨rfl,v',h1,BC h2,(Df hbx _).trans hf⟩
 ·intro pre w' h;refine QO hg (hBel _ w' (fun k hk=>by subst hk;exact hlv) h.frm) ?_;exact h.frm.heap (Ar w2 _) (by show w2.heap.size≠lv;omega)
 ·exact⟨Bn.refl _ _,.slice none 0 0,Ah hbx hl2,⟨rfl,.inl ⟨rfl,rfl⟩⟩⟩
 ·exact fun pre w' h=>h.drew
 ·intro pre i k w' h hi1 hi2 hk1 hk2 hp;have hst:=hR.stTop (i:=i+1) (by omega);have htos:=hR.tos k (by omega);have hlen:=Pe f pre;rw[Kf];exact Zw M caps w0 f T _ lv tb (BA f pre) (edge g i k) w' hW hlv (by simp;omega) (Ah hbx htb) hne h (by omega) (by show 0≤(i:Int);omega) htos.1
def EM(w:World)(G:Gr)(e:Ending)(w':World):Prop:=∃v,e=.returned v∧Ao w' v G∧Below w.heap.size w w'
theorem TQ{w:World}{b:Nat}{x0 y0 z0:Value}{t:TypeId}(h:w.heap[b]?=some (.cells #[x0,y0,z0] t (0,0)))(x y z:Value):
 (((w.setCell ⟨b,0,none⟩ x).setCell ⟨b,1,none⟩ y).setCell ⟨b,2,none⟩ z).cell? ⟨b,0,none⟩=some x∧
 (((w.setCell ⟨b,0,none⟩ x).setCell ⟨b,1,none⟩ y).setCell ⟨b,2,none⟩ z).cell? ⟨b,1,none⟩=some y∧
 (((w.setCell ⟨b,0,none⟩ x).setCell ⟨b,1,none⟩ y).setCell ⟨b,2,none⟩ z).cell? ⟨b,2,none⟩=some z∧
 Bn (fun k=>k=b) w (((w.setCell ⟨b,0,none⟩ x).setCell ⟨b,1,none⟩ y).setCell ⟨b,2,none⟩ z):=by
 have e1:=Ac h 0 x;have e2:=Ac e1 1 y;have e3:=Ac e2 2 z;exact⟨Ab e3 0 _ rfl,Ab e3 1 _ rfl,Ab e3 2 _ rfl,
  (((Bn.refl (fun k=>k=b) w).setCell (p:=⟨b,0,none⟩) (fun _=>rfl) x).setCell (p:=⟨b,1,none⟩) (fun _=>rfl) y).setCell (p:=⟨b,2,none⟩) (fun _=>rfl) z⟩
theorem Ao.off{w w':World}{v:Value}{g:Gr}{b:Nat}{a1 a2 a3:Option Addr}{n1 n2 n3 c1 c2 c3:Nat}{t:TypeId}{fr:Nat×Nat}(h:Ao w v g)(hb:w.heap[b]?=some (.cells #[.slice a1 n1 c1,.slice a2 n2 c2,.slice a3 n3 c3] t fr))(hf:Bn (fun k=>k=b) w w'):Ao w' v g:=by
 have key:∀(p:Addr) (x:Int),w.cell? p=some (.int .i64 x)→w'.cell? p=some (.int .i64 x):=by
  intro p x hp;refine hf.cell hp ?_;intro e;obtain⟨blk,off,spot⟩:=p;have e:blk=b:=e;subst e;have hs:=World.cell?_spot hp;simp only at hs;subst hs;simp only[World.cell?,hb]at hp;rcases off with _ | _ | _ | off <;> simp at hp
 obtain⟨⟨s,a,t,rfl,⟨sa,sc,rfl,h1⟩,⟨aa,ac,rfl,h2⟩,⟨ta,tc,rfl,h3⟩⟩,h4,h5,h6⟩:=h;refine⟨⟨_,_,_,rfl,⟨sa,sc,rfl,?_⟩,⟨aa,ac,rfl,?_⟩,⟨ta,tc,rfl,?_⟩⟩,h4,h5,h6⟩
 ·intro j hj;obtain⟨b',off,e,hc⟩:=h1 j hj;exact⟨b',off,e,key _ _ hc⟩
 ·intro j hj;obtain⟨b',off,e,hc⟩:=h2 j hj;exact⟨b',off,e,key _ _ hc⟩
 ·intro j hj;obtain⟨b',off,e,hc⟩:=h3 j hj;exact⟨b',off,e,key _ _ hc⟩
theorem Yj(M:Nat)(caps:Array Value)(f:Ed→Ed×Bool)(v:Value)(g:Gr)(w:World)(h:Ao w v g)(hR:Bj g=false):
 Calls Tryz.prog 114 #[v,.func (.func M) #[] caps] w (EM w (JI g f)):=by
 rw[Lf hR];obtain⟨sa,aa,ta,sc,ac,tc,rfl,-⟩:=h.var;have hb:=((Ae w (.cells #[.slice sa g.S.length sc,.slice aa g.A.length ac,.slice ta g.T.length tc] 32)).trans ((Ae _ (.cells #[.func (.func M) #[] caps] 160)).mono (by simp))).trans ((Ae ((w.alloc (.cells #[.slice sa g.S.length sc,.slice aa g.A.length ac,.slice ta g.T.length tc] 32)).alloc (.cells #[.func (.func M) #[] caps] 160)) (.cells #[.slice none 0 0,.slice none 0 0,.slice none 0 0] 32)).mono (by simp;omega));have HN:=Aa (Kp _ g _ (h.below hb));rw[hR]at HN;have X0:=Aa (AG ((w.alloc (.cells #[.slice sa g.S.length sc,.slice aa g.A.length ac,.slice ta g.T.length tc] 32)).alloc (.cells #[.func (.func M) #[] caps] 160)) (.cells #[.slice none 0 0,.slice none 0 0,.slice none 0 0] 32) (w.heap.size+1+1) (by simp));have HB:=Aa hb;clear h hR hb;go_enter Tryz.func114,Tryz.ntmps114;go_wp2_with (first
  | (go_at_call 96;refine HN.out.mono ?_;rintro e w1 ⟨rfl,hb1⟩;have l1:=Ah hb1 X0.out;obtain⟨r0,r1,r2⟩:=DY l1;obtain⟨g0,g1,g2⟩:=eP l1;have HB1:=Aa (HB.out.trans (hb1.mono HB.out.size));have L1:=Aa l1;clear hb1 l1))
 obtain⟨q1,q2,q3,q4⟩:=TQ L1.out (.slice none 0 0) (.slice none 0 0) (.slice none 0 0);refine Bd (v:=.agg #[.slice none 0 0,.slice none 0 0,.slice none 0 0]) (by simp[results,Tryz.results114,go_sem,q1,q2,q3]) rfl ?_;exact⟨_,rfl,DB _,HB1.out.trans (q4.below (fun k hk=>by omega) HB1.out.size)⟩
structure Tz(w wx:World)(gc:Array Value)(tv:Value):Prop where
 below:Below w.heap.size w wx
 vg:wx.heap[w.heap.size]?=some (.cells gc 32 (0,0))
 vt:wx.heap[w.heap.size+1]?=some (.cells #[tv] 160 (0,0))
 vr:wx.heap[w.heap.size+1+1]?=some (.cells #[.slice none 0 0,.slice none 0 0,.slice none 0 0] 32 (0,0))
theorem Ax.drew{w:World}{v:Value}{l:List Ed}(h:Ax w v l):Ax w.drew v l:=h
theorem fV{w:World}{b:Nat}{x0 y0 z0:Value}{t:TypeId}(h:w.heap[b]?=some (.cells #[x0,y0,z0] t (0,0)))(x y z:Value):
 (((w.setCell ⟨b,0,none⟩ x).setCell ⟨b,1,none⟩ y).setCell ⟨b,2,none⟩ z).heap[b]?=some (.cells #[x,y,z] t (0,0)):=
 Ac (Ac (Ac h 0 x) 1 y) 2 z
theorem Tz.size{w wx:World}{gc:Array Value}{tv:Value}(h:Tz w wx gc tv):w.heap.size+1+1<wx.heap.size:=(BO.1 h.vr).1
theorem Tz.more{w wx w':World}{gc:Array Value}{tv:Value}(h:Tz w wx gc tv)(hb:Below wx.heap.size wx w'):Tz w w' gc tv:=⟨h.below.trans (hb.mono h.below.size),Ah hb h.vg,Ah hb h.vt,Ah hb h.vr⟩
theorem Tz.drew{w wx:World}{gc:Array Value}{tv:Value}(h:Tz w wx gc tv):Tz w wx.drew gc tv:=⟨h.below.drew,h.vg,h.vt,h.vr⟩
theorem Tz.frm{w wx w':World}{gc:Array Value}{tv:Value}{lv:Nat}(h:Tz w wx gc tv)(hf:Bn (fun k=>k=lv) wx w')(hlv:w.heap.size+1+1<lv):Tz w w' gc tv:=
 ⟨h.below.trans (hf.below (fun k hk=>by omega) h.below.size),hf.heap h.vg (by omega),hf.heap h.vt (by omega),hf.heap h.vr (by omega)⟩
theorem TY(M:Nat)(caps:Array Value)(f:Ed→Ed×Bool)(v:Value)(g:Gr)(w:World)(h:Ao w v g)(T:XB M caps w f)(hR:Rt g):
 Calls Tryz.prog 114 #[v,.func (.func M) #[] caps] w (EM w (JI g f)):=by
 rw[Fg hR];obtain⟨sa,aa,ta,sc,ac,tc,rfl,-⟩:=h.var;have hb:=((Ae w (.cells #[.slice sa g.S.length sc,.slice aa g.A.length ac,.slice ta g.T.length tc] 32)).trans ((Ae _ (.cells #[.func (.func M) #[] caps] 160)).mono (by simp))).trans ((Ae ((w.alloc (.cells #[.slice sa g.S.length sc,.slice aa g.A.length ac,.slice ta g.T.length tc] 32)).alloc (.cells #[.func (.func M) #[] caps] 160)) (.cells #[.slice none 0 0,.slice none 0 0,.slice none 0 0] 32)).mono (by simp;omega));have HN:=Aa (Kp _ g _ (h.below hb));have HNN:=Aa (fun w' (hw:Below w.heap.size w w')=>Hb _ g w' (h.below hw));rw[(Aq g).2 hR]at HN;have X0:=Aa (AG ((w.alloc (.cells #[.slice sa g.S.length sc,.slice aa g.A.length ac,.slice ta g.T.length tc] 32)).alloc (.cells #[.func (.func M) #[] caps] 160)) (.cells #[.slice none 0 0,.slice none 0 0,.slice none 0 0] 32) (w.heap.size+1+1) (by simp));have X1:=Aa (Ah (Ae _ (.cells #[.slice none 0 0,.slice none 0 0,.slice none 0 0] 32)) (AG (w.alloc (.cells #[.slice sa g.S.length sc,.slice aa g.A.length ac,.slice ta g.T.length tc] 32)) (.cells #[.func (.func M) #[] caps] 160) (w.heap.size+1) (by simp)));have X2:=Aa (Ah (Ae _ (.cells #[.slice none 0 0,.slice none 0 0,.slice none 0 0] 32)) (Ah (Ae _ (.cells #[.func (.func M) #[] caps] 160)) (Ar w (.cells #[.slice sa g.S.length sc,.slice aa g.A.length ac,.slice ta g.T.length tc] 32))));have hl:(BA f (Av g)).length≤1000000:=by
  have h1:=Pe f (Av g);have h2:=Gd hR;have h3:=h.sT;omega
 have HB:=Aa hb;have HH:=Aa h;have HR:=Aa hR;have HT:=Aa T;have HL:=Aa hl;clear h hR hb T hl;go_enter Tryz.func114,Tryz.ntmps114;go_wp2_with (first
  | (go_at_call 96;refine HN.out.mono ?_;rintro e w1 ⟨rfl,hb1⟩;have MS1:=Aa (Tz.mk (HB.out.trans (hb1.mono HB.out.size)) (Ah hb1 X2.out) (Ah hb1 X1.out) (Ah hb1 X0.out));clear hb1))
 have MS2:=Aa (MS1.out.more (Ae w1 (.cells #[.slice none 0 0] 55)));have hs1:=MS1.out.size;obtain⟨a0,a1,a2⟩:=DY MS2.out.vg;clear HN X0 X1 X2 HB
 go_cut [] (fun wx=>∃v',wx.heap[w1.heap.size]?=some (.cells #[v'] 55 (0,0))∧Ax wx v' (BA f (Av g))∧Tz w wx #[.slice sa g.S.length sc,.slice aa g.A.length ac,.slice ta g.T.length tc] (.func (.func M) #[] caps))
 case first=>
  go_region_with (first
   | (go_at_call 97;refine(HNN.out _ MS2.out.drew.below).mono ?_;rintro e w2 ⟨rfl,hb2⟩;obtain⟨d0,d1,d2⟩:=JN hb2 a0 a1 a2;have MS3:=Aa (MS2.out.drew.more hb2);have L:=Aa (Ah hb2 (Ar w1 (.cells #[.slice none 0 0] 55)));clear hb2)
   | (go_at_call 104;refine(Vn HT.out HH.out HR.out MS3.out.below (lv:=w1.heap.size) (by omega) L.out MS3.out.vt (by omega)).mono ?_;rintro e w3 ⟨rfl,v',q1,q2,q3⟩;have Q:=Aa (And.intro q1 (And.intro q2 (MS3.out.frm q3 hs1)));clear q1 q2 q3))
  all_goals go_wp2_with fail
  all_goals go_meet
  all_goals exact⟨v',Q.out⟩
 case rest=>
  obtain⟨v',k1,k2,k3⟩:=hcut;obtain⟨ev,ec,rfl,-⟩:=id k2;clear a0 a1 a2 MS2;obtain⟨b0,b1,b2⟩:=DY k3.vg;have lc:=Ab k1 0 _ rfl;have hs3:=k3.size;obtain⟨ba0,ba1,ba2,lca⟩:=Zf (Ae wc (.cells #[.slice none 0 0,.slice none 0 0,.slice none 0 0] 32)) b0 b1 b2 lc;have MS3:=Aa k3;have KE:=Aa k2;have hll:=HL.out;have hn0:(0:Int)≤(Ad g:Nat):=by omega
  generalize hlen:(BA f (Av g)).length=len at*;have HLEN:=Aa hlen;clear hlen k1 k2 k3;go_wp2_with fail
  go_cut [6] (fun t6 wx=>∃(b:Nat) (s1 s2 s3:Option Addr) (n1 n2 n3 c1 c2 c3:Nat),t6=.pointer (some ⟨b,0,none⟩)∧wx.heap[b]?=some (.cells #[.slice s1 n1 c1,.slice s2 n2 c2,.slice s3 n3 c3] 32 (0,0))∧
   Ao wx (.agg #[.slice s1 n1 c1,.slice s2 n2 c2,.slice s3 n3 c3]) (Ai (Ad g:Nat) (BA f (Av g)))∧wx.heap[w.heap.size+1+1]?=some (.cells #[.slice none 0 0,.slice none 0 0,.slice none 0 0] 32 (0,0))∧w.heap.size+1+1<b∧Below w.heap.size w wx)
  case first=>
   go_region_with (first
    | (go_at_call 97;refine(HNN.out _ (by first | exact MS3.out.drew.below | exact(MS3.out.more (Ae _ _)).drew.below)).mono ?_;rintro e w2 ⟨rfl,hb2⟩;have lc2:w2.cell? ⟨w1.heap.size,0,none⟩=some (.slice ev len ec):=(by first | exact Af hb2 lc | exact Af hb2 (Af (Ae _ _) lc));have lc3:=Af (Ae w2 (.cells #[.slice none 0 0,.slice none 0 0,.slice none 0 0] 32)) lc2;have MS4:Hid (Tz w w2 #[.slice sa g.S.length sc,.slice aa g.A.length ac,.slice ta g.T.length tc] (.func (.func M) #[] caps)):=Aa (by first | exact MS3.out.drew.more hb2 | exact(MS3.out.more (Ae _ _)).drew.more hb2);have KE2:Hid (Ax w2 (.slice ev len ec) (BA f (Av g))):=Aa (by first | exact KE.out.drew.below hb2 | exact(KE.out.below (Ae _ _)).drew.below hb2);(try (have NB:=Aa (Ah hb2 (Ar wc (.cells #[.slice none 0 0,.slice none 0 0,.slice none 0 0] 32)))));have hs4:=MS4.out.size;clear hb2)
    | (go_at_call 120;refine(Vq _ _ _ _ (by first | exact KE2.out | exact KE2.out.below (Ae _ _)) (by rw[HLEN.out];exact HL.out)).mono ?_;rintro e w3 ⟨v3,rfl,hG,hb3⟩;have MS5:Hid (Tz w w3 #[.slice sa g.S.length sc,.slice aa g.A.length ac,.slice ta g.T.length tc] (.func (.func M) #[] caps)):=Aa (by first | exact MS4.out.more hb3 | exact(MS4.out.more (Ae _ _)).more hb3);obtain⟨s1,s2,s3,c1,c2,c3,rfl,-⟩:=hG.var;have HG:=Aa hG;(try (have nb3:=Ah hb3 (Ar w2 (.cells #[.slice none 0 0,.slice none 0 0,.slice none 0 0] 32));have NB3:=Aa nb3));(try (have nb3:=Ah hb3 NB.out;have NB3:=Aa nb3));(try (obtain⟨e0,e1,e2⟩:=DY nb3;obtain⟨g0,g1,g2⟩:=eP nb3;clear nb3));have hs5:=MS5.out.size;clear hG hb3))
   all_goals go_wp2_with fail
   all_goals go_meet
   all_goals first
    | exact⟨_,s1,s2,s3,_,_,_,c1,c2,c3,rfl,Ar w3 _,HG.out.below (Ae _ _),Ah (Ae _ _) MS5.out.vr,by omega,MS5.out.below.trans ((Ae _ _).mono MS5.out.below.size)⟩
    | exact⟨_,s1,s2,s3,_,_,_,c1,c2,c3,rfl,fV NB3.out _ _ _,HG.out.off NB3.out (TQ NB3.out _ _ _).2.2.2,(TQ NB3.out _ _ _).2.2.2.heap MS5.out.vr (by omega),by omega,MS5.out.below.trans ((TQ NB3.out _ _ _).2.2.2.below (fun k hk=>by omega) MS5.out.below.size)⟩
  case rest=>
   obtain⟨b,s1,s2,s3,n1,n2,n3,c1,c2,c3,rfl,h1,h2,h3,h4,h5⟩:=hcut;clear b0 b1 b2 lc ba0 ba1 ba2 lca;obtain⟨e0,e1,e2⟩:=DY h1;obtain⟨r0,r1,r2⟩:=DY h3;obtain⟨g0,g1,g2⟩:=eP h3;have H2:=Aa h2;have H3:=Aa h3;have H5:=Aa h5;clear h1 h2 h3 h5;go_wp2_with fail
   obtain⟨q1,q2,q3,q4⟩:=TQ H3.out (.slice s1 n1 c1) (.slice s2 n2 c2) (.slice s3 n3 c3);refine Bd (v:=.agg #[.slice s1 n1 c1,.slice s2 n2 c2,.slice s3 n3 c3]) (by simp[results,Tryz.results114,go_sem,q1,q2,q3]) rfl ?_;exact⟨_,rfl,H2.out.off H3.out q4,H5.out.trans (q4.below (fun k hk=>by omega) H5.out.size)⟩
theorem YE(M:Nat)(caps:Array Value)(f:Ed→Ed×Bool)(v:Value)(g:Gr)(w:World)(h:Ao w v g)(T:XB M caps w f):
 Calls Tryz.prog 114 #[v,.func (.func M) #[] caps] w (EM w (JI g f)):=by
 cases hr:Bj g
 ·exact Yj M caps f v g w h hr
 ·exact TY M caps f v g w h T ((Aq g).1 hr)
def Cz(l:List Bool)(i:Int):Bool:=decide (i<(l.length:Int))&&l.getD i.toNat false
theorem fD(l:List Bool)(i:Int)(hi:0≤i)(v:Value)(b:Nat)(w:World)(h:Bc w v l)(hb:w.cell? ⟨b,0,none⟩=some v)(_hl:l.length≤9223372036854775807):
 Calls Tryz.prog 113 #[.int .i64 i,.pointer (some ⟨b,0,none⟩)] w fun e w'=>e=.returned (.bool (Cz l i))∧w=w':=by
 obtain⟨k,rfl⟩:∃k:Nat,i=(k:Int):=⟨i.toNat,by omega⟩;obtain⟨a,cap,rfl,ha⟩:=h;by_cases hk:k<l.length
 ·obtain⟨b',off,rfl,d⟩:=ha k hk;have E:=Aa (show Cz l k=l.getD k false by unfold Cz;simp[hk]);have z:(k:Int)<(l.length:Int):=by omega
  clear ha;generalize l.getD k false=x at*;go_enter Tryz.func113,Tryz.ntmps113;go_wp2_with fail
  go_ret;exact⟨by rw[E.out];rfl,rfl⟩
 ·have E:=Aa (show Cz l k=false by unfold Cz;simp[hk]);have z:¬(k:Int)<(l.length:Int):=by omega
  clear ha;go_enter Tryz.func113,Tryz.ntmps113;go_wp2_with fail
  go_ret;exact⟨by rw[E.out];rfl,rfl⟩
theorem dX(l:List Bool)(i:Int)(hi:0≤i)(v:Value)(w:World)(h:Bc w v l)(_hl:l.length≤9223372036854775807):
 Calls Tryz.prog 111 #[v,.int .i64 i] w fun e w'=>e=.returned (.bool (Cz l i))∧w=w':=by
 obtain⟨k,rfl⟩:∃k:Nat,i=(k:Int):=⟨i.toNat,by omega⟩;obtain⟨a,cap,rfl,ha⟩:=h;by_cases hk:k<l.length
 ·obtain⟨b',off,rfl,d⟩:=ha k hk;have E:=Aa (show Cz l k=l.getD k false by unfold Cz;simp[hk]);have z:(k:Int)<(l.length:Int):=by omega
  clear ha;generalize l.getD k false=x at*;go_enter Tryz.func111,Tryz.ntmps111;go_wp2_with fail
  go_ret;exact⟨by rw[E.out];rfl,rfl⟩
 ·have E:=Aa (show Cz l k=false by unfold Cz;simp[hk]);have z:¬(k:Int)<(l.length:Int):=by omega
  clear ha;go_enter Tryz.func111,Tryz.ntmps111;go_wp2_with fail
  go_ret;exact⟨by rw[E.out];rfl,rfl⟩
theorem Fk(g:Gr)(i:Int):(AR g i).length≤g.T.length:=by
 unfold AR;split
 ·rename_i h;have hR:=(Aq g).1 h.1;have:=hR.stTop (i:=i.toNat+1) (by omega);rw[Lw,Ho];omega
 ·simp
end Go.Proofs.YtlhpjfnfemebdaaGreat
