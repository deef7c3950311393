/-
  scc.groups: the walk, over any function. scc.Groups, scc.Within: the walks.
-/
import Derived.Test.YtlhpjfnfemebdaaGreatJRowsM
import Derived.Laws.EntriesVeiled
import Derived.Deep.AppendLies
import Derived.Test.YtlhpjfnfemebdaaGreatSccParts
import Derived.Test.YtlhpjfnfemebdaaGreatKeep2
set_option maxRecDepth 100000
set_option maxHeartbeats 64000000
set_option linter.unusedSimpArgs false
namespace Go.Proofs.YtlhpjfnfemebdaaGreat
open Go.RowKit
theorem Tryz.info22:(Tryz.prog.info? 22).map (fun i=>(i.zero,i.size,i.bytes))=some (some (.slice none 0 0),1,24):=by kernel_rfl
structure Yp(M:Nat)(caps:Array Value)(w0:World)(n:Nat)(inn:Nat→Bool):Prop where
 enters:Enters Tryz.prog M
 ok:∀(i:Nat) (w':World),i<n→Below w0.heap.size w0 w'→Calls Tryz.prog M (#[.int .i64 (i:Nat)]++caps) w' fun en w''=>en=.returned (.bool (inn i))∧Below w'.heap.size w' w''
def Dw(l:List (List Nat)):List (List Int):=l.map (fun r=>r.map (fun k:Nat=>(k:Int)))
theorem FW(l:List (List Nat)):(Dw l).length=l.length:=by simp[Dw]
theorem Qe(l:List (List Nat))(k x:Nat):Dw (l.modify k (·++[x]))=(Dw l).modify k (·++[(x:Int)]):=by
 refine List.ext_getElem? fun j=>?_;simp only[Dw,List.getElem?_map,List.getElem?_modify];rcases l[j]? with _ | r
 ·rfl
 ·by_cases e:k=j
  ·simp[e]
  ·simp[e]
def DK{q:Nat→Int}{inn:Nat→Bool}(k:Nat):Int→Option Int:=fun p=>(ED q inn k p).map (fun x:Nat=>(x:Int))
section
variable {q:Nat→Int} {inn:Nat→Bool}
theorem KU(n:Nat)(p:Int):(CR q inn n p).length≤n:=by
 have:=List.length_filter_le (fun k=>inn k&&decide (q k=p)) (List.range n);simpa[CR]using this
theorem Tt(n:Nat):(Bm q inn n).length≤n:=by
 have:=List.length_filter_le (OG q inn) (List.range n);simpa[Bm]using this
theorem Vl(n:Nat):(Ii q inn n).length≤n:=by
 have:=Tt (q:=q) (inn:=inn) n;simpa[Ii]using this
theorem Qf(n j:Nat):((Dw (Ii q inn n)).getD j []).length≤n:=by
 simp only[Dw,Ii,AM,List.getElem?_map];rcases(Bm q inn n)[j]? with _ | i
 ·simp
 ·simpa using KU n (q i)
theorem fN{n:Nat}(h:inn n=false):Dw (Ii q inn (n+1))=Dw (Ii q inn n)∧DK (q:=q) (inn:=inn) (n+1)=DK (q:=q) (inn:=inn) n:=by
 obtain⟨h1,h2⟩:=ZM (q:=q) h;exact⟨by rw[h1],by funext p;unfold DK;rw[h2]⟩
theorem bM{n:Nat}(h:inn n=true)(hp:DK (q:=q) (inn:=inn) n (q n)=none):
 Dw (Ii q inn (n+1))=Dw (Ii q inn n)++[[(n:Int)]]∧(fun p=>if p=q n then some (((Dw (Ii q inn n)).length:Nat):Int) else DK (q:=q) (inn:=inn) n p)=DK (q:=q) (inn:=inn) (n+1):=by
 have hp':ED q inn n (q n)=none:=by simpa[DK]using hp
 obtain⟨h1,h2⟩:=Wy (q:=q) h hp';refine⟨by rw[h1];simp[Dw],?_⟩
 funext p
 unfold DK;rw[h2];by_cases e:p=q n
 ·rw[if_pos e,if_pos e,FW];rfl
 ·rw[if_neg e,if_neg e]
theorem dN{n:Nat}{x:Int}(h:inn n=true)(hp:DK (q:=q) (inn:=inn) n (q n)=some x):
 ∃c:Nat,x=(c:Int)∧c<(Dw (Ii q inn n)).length∧Dw (Ii q inn (n+1))=(Dw (Ii q inn n)).modify c (·++[(n:Int)])∧DK (q:=q) (inn:=inn) (n+1)=DK (q:=q) (inn:=inn) n:=by
 obtain⟨c,hc,rfl⟩:=Option.map_eq_some_iff.1 (show(ED q inn n (q n)).map (fun x:Nat=>(x:Int))=some x from hp);obtain⟨h1,h2⟩:=XX (q:=q) h hc;obtain⟨h3,-⟩:=SG hc;exact⟨c,rfl,by rw[FW];simpa[Ii]using h3,by rw[h1,Qe],by funext p;unfold DK;rw[h2]⟩
end
theorem RH(rows:List (List Int))(x:Int):(rows++[[]]).modify rows.length (·++[x])=rows++[[x]]:=by
 refine List.ext_getElem? fun j=>?_;rw[List.getElem?_modify];by_cases e:rows.length=j
 ·subst e;simp
 ·by_cases h:j<rows.length
  ·rw[List.getElem?_append_left h,List.getElem?_append_left h];simp[e]
  ·rw[List.getElem?_eq_none (by simp;omega),List.getElem?_eq_none (by simp;omega)];rfl
theorem BS.var{w:World}{base:Nat}{ov:Value}{rows:List (List Int)}{vals:List Value}(h:BS w base ov rows vals):∃a cap,ov=.slice a rows.length cap:=by
 rcases h.out.2 with⟨rfl,e⟩ | ⟨g,cap,cur,rfl,-⟩
 ·exact⟨none,0,by rw[e]⟩
 ·exact⟨_,cap,rfl⟩
theorem Bu.grown{w w':World}{b n sz:Nat}{f:Int→Option Int}(h:Bu w b n f sz){base:Nat}{e:TypeId}{size:Nat}{v:Value}{m:Nat}{xs:List Value}(ho:w.ownsRow base e size v m xs)(hg:w.grownBy w' v.ownBlock):Bu w' b n f sz:=by
 refine h.kept hg ?_;intro eq;obtain⟨D,⟨es,c,h0,-⟩,-⟩:=h;rcases ho.2 with⟨rfl,-⟩ | ⟨g,cap,cur,rfl,-,hg2,-⟩
 ·simp[Value.ownBlock]at eq
 ·simp[Value.ownBlock]at eq;subst eq;rw[hg2]at h0;simp at h0
theorem Bu.ne{w:World}{b n sz:Nat}{f:Int→Option Int}(h:Bu w b n f sz){g:Nat}{c:Array Value}{t:TypeId}{fr:Nat×Nat}(hg:w.heap[g]?=some (.cells c t fr)):b≠g:=by
 rintro rfl;obtain⟨D,⟨es,c,h0,-⟩,-⟩:=h;rw[hg]at h0;simp at h0
theorem BS.mapUpd{w w':World}{base mb:Nat}{ov:Value}{rows:List (List Int)}{vals:List Value}(h:BS w base ov rows vals){n sz:Nat}{f:Int→Option Int}(hm:Bu w mb n f sz)(hg:w.grownBy w' (some mb)):BS w' base ov rows vals:=by
 have hf:Bn (fun q=>q=mb) w w':=(Bn.refl _ w).grown hg (fun k hk _=>by cases hk;rfl);have key:∀(e:TypeId) (v:Value) (m:Nat) (xs:List Value),w.ownsRow base e 1 v m xs→∀q,v.ownBlock=some q→¬q=mb:=fun e v m xs ho q hq e2=>by
  subst e2;rcases ho.2 with⟨rfl,-⟩ | ⟨g,cap,cur,rfl,-,hg2,-⟩
  ·simp[Value.ownBlock]at hq
  ·simp[Value.ownBlock]at hq;subst hq;exact hm.ne hg2 rfl
 exact h.frm hf (key _ _ _ _ h.out) (fun j hj=>key _ _ _ _ (h.inn j hj))
structure fQ(w wr:World)(mb m sz:Nat)(q:Nat→Int)(inn:Nat→Bool)(k:Nat)(ov:Value)(rows:List (List Int))(vals:List Value):Prop where
 hm:m≤k
 map:Bu wr mb m (DK (q:=q) (inn:=inn) k) sz
 rows:BS wr w.heap.size ov rows vals
 below:Below w.heap.size w wr
theorem Bu.neOwn{w:World}{b n sz:Nat}{f:Int→Option Int}(h:Bu w b n f sz){base:Nat}{e:TypeId}{size:Nat}{v:Value}{m g:Nat}{xs:List Value}(ho:w.ownsRow base e size v m xs)(hg:v.ownBlock=some g):b≠g:=by
 rcases ho.2 with⟨rfl,-⟩ | ⟨g',cap,cur,rfl,-,hg2,-⟩
 ·simp[Value.ownBlock]at hg
 ·simp[Value.ownBlock]at hg;subst hg;exact h.ne hg2
theorem Below.own{w wr w':World}(h:Below w.heap.size w wr){e:TypeId}{size:Nat}{v:Value}{m:Nat}{xs:List Value}{o:Obj}(ho:wr.ownsRow w.heap.size e size v m xs)(hg:(wr.alloc o).grownBy w' v.ownBlock):Below w.heap.size w w':=
 (h.alloc h.size o).grown hg (by have:=h.size;simp;omega) (fun k hk=>(ho.lt k hk).1)
theorem Bu.more{w w':World}{b n sz:Nat}{f:Int→Option Int}(h:Bu w b n f sz)(hb:Below w.heap.size w w'):Bu w' b n f sz:=h.heap (hb.block b h.lt)
theorem fQ.skip {w wr w':World} {mb m sz k:Nat} {q:Nat→Int} {inn:Nat→Bool} {ov:Value} {rows:List (List Int)} {vals:List Value} (h:fQ w wr mb m sz q inn k ov rows vals) (hb:Below wr.heap.size wr w')
 (e:DK (q:=q) (inn:=inn) (k+1)=DK (q:=q) (inn:=inn) k):fQ w w' mb m sz q inn (k+1) ov rows vals:=
 ⟨Nat.le_succ_of_le h.hm,by rw[e];exact h.map.more hb,h.rows.more hb,h.below.trans (hb.mono h.below.size)⟩
theorem YU {w2 w3:World} {base:Nat} {ov:Value} {rows:List (List Int)} {vals:List Value} {rl g cap:Nat} {o:Obj} (h:BS w2 base ov rows vals) (hrl:rows.length=rl) (hg:(w2.alloc o).grownBy w3 ov.ownBlock) (hor:ov.ownBlock=some g∨g=w2.heap.size+1)
 (hown:w3.ownsRow base 22 1 (.slice (some ⟨g,0,none⟩) (rl+1) cap) (rl+1) (vals++[.slice none 0 0])):
 w3.cell? ⟨g,rl,none⟩=some (.slice none 0 0)∧BS w3 base (.slice (some ⟨g,0,none⟩) (rl+1) cap) (rows++[[]]) (vals++[.slice none 0 0]):=by
 subst hrl;have hr:=(h.more (Ae w2 o)).push (nv:=.slice none 0 0) (row:=[]) hg (by simpa using hor) hown (CO _ _ _ _) (fun q hq=>by simp[Value.ownBlock]at hq) (fun j _ q hq=>by simp[Value.ownBlock]at hq);refine⟨?_,hr⟩;obtain⟨b,e1,-,e2⟩:=BL hr.out (j:=rows.length) (by simp);obtain rfl:g=b:=by simpa[Value.ownBlock]using e1
 rw[e2,Ei _ _ _ _ (by rw[h.len];exact AQ _),if_neg (by rw[h.len];omega)]
theorem VA {w3 w4:World} {base:Nat} {rows:List (List Int)} {vals:List Value} {rl g cap g2 cap2:Nat} {o:Obj} {x:Int} (h:BS w3 base (.slice (some ⟨g,0,none⟩) (rl+1) cap) (rows++[[]]) (vals++[.slice none 0 0])) (hrl:rows.length=rl) (hv:vals.length=rl)
 (hg:(w3.alloc o).grownBy w4 (Value.slice none 0 0).ownBlock) (hor:(Value.slice none 0 0).ownBlock=some g2∨g2=w3.heap.size+1)
 (hown:w4.ownsRow base 3 1 (.slice (some ⟨g2,0,none⟩) (0+1) cap2) (0+1) ([]++[.int .i64 x])):
 (∃u,w4.cell? ⟨g,rl,none⟩=some u)∧w4.frozen? ⟨g,rl,none⟩=false∧base≤g∧∃vals',BS (w4.setCell ⟨g,rl,none⟩ (.slice (some ⟨g2,0,none⟩) (0+1) cap2)) base (.slice (some ⟨g,0,none⟩) (rl+1) cap) (rows++[[x]]) vals':=by
 subst hrl;have e1:(vals++[Value.slice none 0 0]).getD rows.length undef=.slice none 0 0:=by rw[← hv];simp
 have e2:(rows++[[]]).getD rows.length []=([]:List Int):=by simp
 obtain⟨ob,oc,e,hc,hf,hb,hr⟩:=(h.more (Ae w3 o)).grow (k:=rows.length) (by simp) (m:=0) (x:=x) (g:=g2) (cap:=cap2) (by rw[e2];rfl) (by rw[e1];exact hg) (by rw[e1];simpa using hor) (by rw[e2];exact hown);simp only[Value.slice.injEq,Option.some.injEq,Addr.mk.injEq,and_true]at e;obtain⟨rfl,-,rfl⟩:=e;rw[RH]at hr;exact⟨hc,hf,hb,_,hr⟩
theorem UJ{w1:World}{base:Nat}{ov:Value}{rows:List (List Int)}{vals:List Value}{rl c:Nat}(h:BS w1 base ov rows vals)(hrl:rows.length=rl)(hc:c<rl):
 ∃ob oc,ov=.slice (some ⟨ob,0,none⟩) rl oc∧w1.cell? ⟨ob,c,none⟩=some (vals.getD c undef)∧w1.ownsRow base 3 1 (vals.getD c undef) (rows.getD c []).length ((rows.getD c []).map (Value.int .i64)):=by
 subst hrl;obtain⟨b,e1,⟨cap,e3⟩,e2⟩:=BL h.out hc;exact⟨b,cap,e3,e2,h.inn c hc⟩
theorem ZW {w1 w4:World} {base:Nat} {rows:List (List Int)} {vals:List Value} {rl c ob oc m g2 cap2:Nat} {iv:Value} {o:Obj} {x:Int} (h:BS w1 base (.slice (some ⟨ob,0,none⟩) rl oc) rows vals) (hrl:rows.length=rl) (hc:c<rl) (hiv:vals.getD c undef=iv) (hm:(rows.getD c []).length=m)
 (hg:(w1.alloc o).grownBy w4 iv.ownBlock) (hor:iv.ownBlock=some g2∨g2=w1.heap.size+1)
 (hown:w4.ownsRow base 3 1 (.slice (some ⟨g2,0,none⟩) (m+1) cap2) (m+1) ((rows.getD c []).map (Value.int .i64)++[.int .i64 x])):
 (∃u,w4.cell? ⟨ob,c,none⟩=some u)∧w4.frozen? ⟨ob,c,none⟩=false∧base≤ob∧∃vals',BS (w4.setCell ⟨ob,c,none⟩ (.slice (some ⟨g2,0,none⟩) (m+1) cap2)) base (.slice (some ⟨ob,0,none⟩) rl oc) (rows.modify c (·++[x])) vals':=by
 subst hrl hiv;obtain⟨ob',oc',e,hcc,hf,hb,hr⟩:=(h.more (Ae w1 o)).grow hc (x:=x) hm hg (by simpa using hor) hown;simp only[Value.slice.injEq,Option.some.injEq,Addr.mk.injEq,and_true]at e;obtain⟨rfl,-,rfl⟩:=e;exact⟨hcc,hf,hb,_,hr⟩
theorem TU(M:Nat)(caps:Array Value)(inn:Nat→Bool)(v:Value)(ps:List Int)(w:World)(h:Am w v ps)(hps:∀x∈ps,(Lit.int .i64 x).wf=true)(hn:ps.length≤1000000)(T:Yp M caps w ps.length inn):
 Calls Tryz.prog 98 #[v,.func (.func M) #[] caps] w fun e w'=>∃rv,e=.returned rv∧(∃vals,BS w' w.heap.size rv (Dw (Ii (fun k=>ps.getD k 0) inn ps.length)) vals)∧Below w.heap.size w w':=by
 obtain⟨i0,hi0,hz0,hz1,hz2⟩:=CE (Tryz.info3);obtain⟨j0,hj0,hw0,hw1,hw2⟩:=CE Tryz.info22;obtain⟨pa,pc,rfl,hp⟩:=h;have hE':∀(args:Array Value) (w:World),(callFunc M args).run Tryz.prog w=.ok (.enter M args) w:=T.enters;have hmm:=@run_makeMap Tryz.prog;have HT:=Aa T.ok;have HP:=Aa hp;have HPS:=Aa hps;have G0:=Aa (show fQ w (w.alloc (.map #[] 0)) w.heap.size 0 0 (fun k=>ps.getD k 0) inn 0 (.slice none 0 0) (Dw (Ii (fun k=>ps.getD k 0) inn 0)) [] from⟨AQ _,Bu.made w,Pw _ _,Ae _ _⟩);clear T hp hps;obtain⟨n,hnn⟩:∃n,ps.length=n:=⟨_,rfl⟩;rw[hnn]at HT HP hn ⊢;have HNN:=Aa hnn;clear hnn;go_enter Tryz.func98,Tryz.ntmps98;go_wp2_with fail
 go_loopg [5,14] n (fun fu ov c wr=>∃(k m sz:Nat) (rows:List (List Int)) (vals:List Value),k+fu=n∧c=.int .i64 k∧Hid (Dw (Ii (fun k=>ps.getD k 0) inn k)=rows)∧Hid (fQ w wr w.heap.size m sz (fun k=>ps.getD k 0) inn k ov rows vals))
 case atStart=>exact⟨0,0,0,_,_,by omega,rfl,Aa rfl,G0⟩
 case round=>
  clear G0;obtain⟨k,m,sz,rows,vals,hk,rfl,HR,HG⟩:=hrel;obtain⟨oa,oc,rfl⟩:=HG.out.rows.var;by_cases hlt:k<n
  ·have i1:(k:Int)<(n:Int):=by omega
   obtain⟨pb,po,rfl,pcell⟩:=HP.out k hlt;have pcell:=Af HG.out.below pcell;have HW:Hid ((Lit.int .i64 (ps.getD k 0)).wf=true):=Aa (HPS.out _ (Ch (by have:=HNN.out;omega)));have HC:=Aa (HT.out k wr hlt HG.out.below);cases hin:inn k
   ·rw[hin]at HC;have HS:=Aa (fN (q:=fun k=>ps.getD k 0) hin);generalize ps.getD k 0=p at*;go_wp2_with (go_at_fn M;refine HC.out.mono ?_;rintro en w1 ⟨rfl,hb1⟩;have HB1:=Aa hb1;clear hb1)
    go_roundg (n - (k+1))
    case measure=>omega
    case rel=>exact⟨k+1,m,sz,rows,vals,by omega,by simp,Aa (by rw[HS.out.1];exact HR.out),Aa (HG.out.skip HB1.out HS.out.2)⟩
   ·rw[hin]at HC;obtain⟨rl,hrl⟩:∃rl,rows.length=rl:=⟨_,rfl⟩;have HRL:=Aa hrl;have hrk:rl≤k:=by rw[← hrl,← HR.out,FW];exact Vl k
    have hvl:=HG.out.rows.len;rw[hrl]at hvl;have HVL:=Aa hvl;have hmk:=HG.out.hm;rw[hrl]at HG ⊢;rcases hpl:DK (q:=fun k=>ps.getD k 0) (inn:=inn) k (ps.getD k 0) with _ | x
    ·have HS:=Aa (bM (q:=fun k=>ps.getD k 0) hin hpl);have HPL:=Aa hpl;have HWL:Hid ((Lit.int .i64 ((rl:Nat):Int)).wf=true):=Aa (WalkArith.wf_i64 (by omega));rw[HR.out,hrl]at HS;clear hpl hvl;generalize ps.getD k 0=p at*;have i2:(rl:Int)<((rl+1:Nat):Int):=by omega
     have i3:(rl:Int)<(rl:Int)+1:=by omega
     go_wp2_with (first
      | (go_at_fn M;refine HC.out.mono ?_;rintro en w1 ⟨rfl,hb1⟩;have HM1:=Aa (HG.out.map.more hb1);have HR1:=Aa (HG.out.rows.more hb1);have HB1:=Aa (HG.out.below.trans (hb1.mono HG.out.below.size));clear hb1)
      | (at_lookup;refine Id HM1.out rfl rfl rfl rfl HW.out ?_;rw[HPL.out])
      | (at_mapUpdate;refine QH HM1.out (by unfold maxLen;omega) rfl rfl rfl rfl rfl HW.out HWL.out ?_;intro w2 hm2 hg2;have HM2:=Aa hm2;have HR2:=Aa (HR1.out.mapUpd HM1.out hg2);have HB2:=Aa (HB1.out.grown hg2 HB1.out.size (fun k hk=>by cases hk;exact AQ _));clear hm2 hg2)
      | (at_builtin;refine wpList_append_lies (w2.alloc (.cells #[.slice none 0 0] 22)) rfl (.tmp 36) (.tmp 37) 59 rfl w.heap.size 22 j0 (.slice none 0 0) 1 24 Tryz.underlying59 hj0 hw0 hw1 hw2 rfl (by decide) (.slice oa rl oc) rl vals rfl (by have:=HR2.out.out.alloc (.cells #[.slice none 0 0] 22);rw[HRL.out]at this;exact this) ⟨w2.heap.size,0,none⟩ 1 1 [.slice none 0 0] rfl rfl (World.news_of_block (Ar _ _)) (by simp[Value.oneCell']) (by omega) (by unfold maxLen;omega) (by omega) (by have:=HB2.out.size;simp;omega) (w2.heap.size+1) (by simp) ?_;intro g3 cap3 w3 hown3 hgr3 hor3 hlt3;obtain⟨q0,q1⟩:=YU HR2.out HRL.out hgr3 hor3 hown3;have HR3:=Aa q1;have HM3:=Aa ((HM2.out.more (Ae w2 (.cells #[.slice none 0 0] 22))).grown (HR2.out.out.alloc _) hgr3);have HB3:=Aa (Below.own HB2.out HR2.out.out hgr3);clear q1 hown3 hgr3 hor3)
      | (at_builtin;refine wpList_append_lies (w3.alloc (.cells #[.int .i64 k] 3)) rfl (.tmp 44) (.tmp 46) 22 rfl w.heap.size 3 i0 (.int .i64 0) 1 8 Tryz.underlying22 hi0 hz0 hz1 hz2 rfl (by decide) (.slice none 0 0) 0 [] rfl (CO _ _ _ _) ⟨w3.heap.size,0,none⟩ 1 1 [.int .i64 k] rfl rfl (World.news_of_block (Ar _ _)) (by simp[Value.oneCell']) (by omega) (by unfold maxLen;omega) (by omega) (by have:=HB3.out.size;simp;omega) (w3.heap.size+1) (by simp) ?_;intro g4 cap4 w4 hown4 hgr4 hor4 hlt4;obtain⟨⟨u,qu⟩,qf,qb,vals2,qr⟩:=VA HR3.out HRL.out HVL.out hgr4 hor4 hown4;have HR4:=Aa qr;have HB4:=Aa (Below.own (v:=.slice none 0 0) (e:=3) (size:=1) HB3.out (CO _ _ _ _) hgr4);have HM4:=Aa (Bu.setCell (Bu.grown (Bu.more HM3.out (Ae w3 (.cells #[.int .i64 k] 3))) (CO _ 0 3 1) hgr4) (a:=⟨g3,rl,none⟩) (HM3.out.neOwn HR3.out.out rfl) (.slice (some ⟨g4,0,none⟩) (0+1) cap4));clear qr hown4 hgr4 hor4))
     go_roundg (n - (k+1))
     case measure=>omega
     case rel=>
      refine⟨k+1,m+1,_,rows++[[(k:Int)]],vals2,by omega,by simp,Aa HS.out.1,Aa ⟨by omega,by rw[← HS.out.2];exact HM4.out,?_,HB4.out.setCell (p:=⟨g3,rl,none⟩) qb _⟩⟩;have:=HR4.out;simpa using this
    ·obtain⟨c,rfl,hcl,hS1,hS2⟩:=dN (q:=fun k=>ps.getD k 0) hin hpl;have HS:=Aa (And.intro hS1 hS2);rw[HR.out]at HS;rw[HR.out,hrl]at hcl;have HPL:=Aa hpl;have hrw:(rows.getD c []).length≤k:=by rw[← HR.out];exact Qf k c
     clear hpl hvl hS1 hS2;generalize ps.getD k 0=p at*;obtain⟨rw',hrw'⟩:∃z,(rows.getD c []).length=z:=⟨_,rfl⟩;have HRW:=Aa hrw';rw[hrw']at hrw;obtain⟨iv,hiv⟩:∃z,vals.getD c undef=z:=⟨_,rfl⟩;have HIV:=Aa hiv;obtain⟨ob,oc',e0,-,-⟩:=UJ HG.out.rows hrl hcl;simp only[Value.slice.injEq,true_and]at e0;obtain⟨rfl,rfl⟩:=e0;have i2:(c:Int)<(rl:Int):=by omega
     clear hrl hrw' hiv;go_wp2_with (first
      | (go_at_fn M;refine HC.out.mono ?_;rintro en w1 ⟨rfl,hb1⟩;have HM1:=Aa (HG.out.map.more hb1);have hr1:=HG.out.rows.more hb1;have HR1:=Aa hr1;have HB1:=Aa (HG.out.below.trans (hb1.mono HG.out.below.size));obtain⟨b1,c1,e1,hc1,ho1⟩:=UJ hr1 HRL.out hcl;(have e2:ob=b1:=(by simp at e1;exact e1.1));subst e2;rw[HIV.out]at hc1 ho1;rw[HRW.out]at ho1;have HO1:=Aa ho1;clear hb1 hr1 ho1 e1)
      | (at_lookup;refine Id HM1.out rfl rfl rfl rfl HW.out ?_;rw[HPL.out])
      | (at_builtin;refine wpList_append_lies (w1.alloc (.cells #[.int .i64 k] 3)) rfl (.tmp 44) (.tmp 46) 22 rfl w.heap.size 3 i0 (.int .i64 0) 1 8 Tryz.underlying22 hi0 hz0 hz1 hz2 rfl (by decide) iv rw' ((rows.getD c []).map (Value.int .i64)) rfl (HO1.out.alloc _) ⟨w1.heap.size,0,none⟩ 1 1 [.int .i64 k] rfl rfl (World.news_of_block (Ar _ _)) (by simp[Value.oneCell']) (by omega) (by unfold maxLen;omega) (by omega) (by have:=HB1.out.size;simp;omega) (w1.heap.size+1) (by simp) ?_;intro g4 cap4 w4 hown4 hgr4 hor4 hlt4;obtain⟨⟨u,qu⟩,qf,qb,vals2,qr⟩:=ZW HR1.out HRL.out hcl HIV.out HRW.out hgr4 hor4 hown4;have HR4:=Aa qr;have HB4:=Aa (Below.own HB1.out HO1.out hgr4);have HM4:=Aa (Bu.setCell (Bu.grown (Bu.more HM1.out (Ae w1 (.cells #[.int .i64 k] 3))) (HO1.out.alloc _) hgr4) (a:=⟨ob,c,none⟩) (HM1.out.neOwn HR1.out.out rfl) (.slice (some ⟨g4,0,none⟩) (rw'+1) cap4));clear qr hown4 hgr4 hor4))
     go_roundg (n - (k+1))
     case measure=>omega
     case rel=>
      refine⟨k+1,m,sz,_,vals2,by omega,by simp,Aa HS.out.1,Aa ⟨by omega,by rw[HS.out.2];exact HM4.out,?_,HB4.out.setCell (p:=⟨ob,c,none⟩) qb _⟩⟩;have:=HR4.out;simpa using this
  ·obtain rfl:k=n:=by omega
   go_wp2_with fail
   go_ret;exact⟨_,rfl,⟨vals,by rw[HR.out];exact HG.out.rows⟩,HG.out.below⟩
theorem Gk{w:World}{base base':Nat}{e:TypeId}{size:Nat}{v:Value}{n:Nat}{xs:List Value}(h:w.ownsRow base e size v n xs)(hb:base'≤base):w.ownsRow base' e size v n xs:=by
 obtain⟨l,r⟩:=h;refine⟨l,?_⟩;rcases r with r | ⟨g,cap,cur,e,hbg,r⟩
 ·exact .inl r
 ·exact .inr ⟨g,cap,cur,e,by omega,r⟩
theorem BS.base{w:World}{base base':Nat}{ov:Value}{rows:List (List Int)}{vals:List Value}(h:BS w base ov rows vals)(hb:base'≤base):BS w base' ov rows vals:=
 ⟨h.len,Gk h.out hb,fun j hj=>Gk (h.inn j hj) hb,h.apart,h.offO⟩
def Og(ps:List Int)(inn:Nat→Bool):List (List Int):=Dw (Ii (fun k=>ps.getD k 0) inn ps.length)
theorem BN(g:Gr):(Be g).length=Ad g:=by simp[Be,MQ]
theorem DA{g:Gr}{i:Nat}(h:i<Ad g):(Be g).getD i 0=((DR g i:Nat):Int):=by
 rw[← Ty h];have hl:i<(GM g).length:=by rw[MQ];exact h
 simp[Be,hl]
theorem WT(g:Gr)(hn:Ad g≤100000):∀x∈Be g,(Lit.int .i64 x).wf=true:=by
 intro x hx;obtain⟨j,hj,e⟩:=Ey hx;rw[BN]at hj;have e2:=DA hj;rw[AM,Bf (by rw[BN];exact hj)]at e2;simp only[Option.getD_some]at e2;rw[e2]at e;have:=Rw hj;exact WalkArith.wf_i64 (by omega)
theorem YH(w0:World)(n b:Nat)(v:Value)(l:List Bool)(h:Bc w0 v l)(_hl:l.length≤1000000)(_hn:n≤1000000)(hb:w0.cell? ⟨b,0,none⟩=some v):Yp 101 #[.pointer (some ⟨b,0,none⟩)] w0 n (fun i=>l.getD i false):=by
 refine⟨enters_of Tryz.func101 (by kernel_rfl) rfl,?_⟩;intro i w hi hw;show Calls Tryz.prog 101 #[.int .i64 (i:Nat),.pointer (some ⟨b,0,none⟩)] w _;obtain⟨a,c,rfl,hc⟩:=h;have d:=Af hw hb;by_cases hlt:i<l.length
 ·obtain⟨b2,o2,rfl,e⟩:=hc i hlt;have e2:=Af hw e;have z:(i:Int)<(l.length:Int):=by omega
  clear hc e hb hw;generalize l.getD i false=x at*;go_enter Tryz.func101,Tryz.ntmps101;go_wp2_with fail
  go_ret;exact⟨rfl,Ak _ _⟩
 ·have z:¬(i:Int)<(l.length:Int):=by omega
  have e:l.getD i false=false:=by rw[AM,List.getElem?_eq_none (by omega)];rfl
  rw[e];clear hc hb hw e;go_enter Tryz.func101,Tryz.ntmps101;go_wp2_with fail
  go_ret;exact⟨rfl,Ak _ _⟩
def Wk(w:World)(rows:List (List Int))(e:Ending)(w':World):Prop:=∃v,e=.returned v∧(∃vals,BS w' w.heap.size v rows vals)∧Below w.heap.size w w'
def GX(w:World)(rows:List (List Int))(e:Ending)(w':World):Prop:=∃v,e=.returned v∧Ih w' v rows∧Below w.heap.size w w'
noncomputable def Cd(g:Gr):List (List Int):=Og (Be g) (fun _=>true)
noncomputable def Aw(g:Gr)(l:List Bool):List (List Int):=Og (Be (Bg g l)) (fun i=>l.getD i false)
theorem Pi{n:Nat}{l:List Ed}(h:AY n l=true):Ad (Iq n l)=n:=by
 rw[Ap (Hf h)];simp[Iq,AJ]
theorem QX(n:Nat)(l:List Ed):Ad (Ai n l)≤100000:=by
 cases h:AY n l
 ·rw[Ia h,Cp (AZ (fun hR=>by have:=hR.ne;simp at this))];omega
 ·rw[Jt h,Pi h];exact(Ej h).1
theorem Hx(g:Gr)(l:List Bool):Ad (Bg g l)≤100000:=by
 unfold Bg JI;split
 ·exact QX _ _
 ·rw[Cp (AZ (fun hR=>by have:=hR.ne;simp at this))];omega
theorem Tb(v u:Value)(g:Gr)(l:List Bool)(w:World)(h:Ao w v g)(hu:Bc w u l)(hl:l.length≤1000000):Calls Tryz.prog 81 #[v,u] w (Wk w (Aw g l)):=by
 obtain⟨sa,aa,ta,sc,ac,tc,rfl,-⟩:=h.var;obtain⟨ua,uc,rfl,-⟩:=id hu;have hb1:=Ae w (.cells #[.slice sa g.S.length sc,.slice aa g.A.length ac,.slice ta g.T.length tc] 32);have hb:=hb1.trans ((Ae (w.alloc (.cells #[.slice sa g.S.length sc,.slice aa g.A.length ac,.slice ta g.T.length tc] 32)) (.cells #[.slice ua l.length uc] 56)).mono hb1.size);have KK:=Aa (aP _ _ g l _ (h.below hb) (hu.below hb) (by omega));have HU:=Aa (fun(w':World) (hw:Below w.heap.size w w')=>hu.below hw);have HB:=Aa hb;have X1:=Aa (AG (w.alloc (.cells #[.slice sa g.S.length sc,.slice aa g.A.length ac,.slice ta g.T.length tc] 32)) (.cells #[.slice ua l.length uc] 56) (w.heap.size+1) (by simp));have HL:=Aa hl;have HKN:=Aa (Hx g l);clear h hb hu hb1;go_enter Tryz.func81,Tryz.ntmps81;go_wp2_with (first
  | (go_at_call 100;refine KK.out.mono ?_;rintro e w1 ⟨kv,rfl,hK,hb1⟩;have HK:=Aa hK;have X2:=Aa (Ah hb1 X1.out);have HB1:=Aa (HB.out.trans (hb1.mono HB.out.size));clear hK hb1)
  | (go_at_call 99;refine(Yf _ _ _ HK.out HKN.out).mono ?_;rintro e w2 ⟨B,rfl,hB,hb2⟩;have HI:=Aa (BQ hB (BN (Bg g l)).symm (Ad (Bg g l)));have X3:=Aa (Ah hb2 X2.out);have HB2:=Aa (HB1.out.trans (hb2.mono HB1.out.size));clear hB hb2)
  | (go_at_call 98;refine(TU 101 #[.pointer (some ⟨w.heap.size+1,0,none⟩)] (fun i=>l.getD i false) _ (Be (Bg g l)) w2 HI.out (WT _ HKN.out) (by rw[BN];have:=HKN.out;omega) (YH _ _ _ _ l (HU.out _ HB2.out) HL.out (by rw[BN];have:=HKN.out;omega) (Ab X3.out 0 _ rfl))).mono ?_;rintro e w3 ⟨rv,rfl,⟨vals,hr⟩,hb3⟩;have HR:=Aa (hr.base (base':=w.heap.size) HB2.out.size);have HB3:=Aa (HB2.out.trans (hb3.mono HB2.out.size));clear hr hb3))
 go_ret;exact⟨_,rfl,⟨vals,HR.out⟩,HB3.out⟩
theorem TX(v u:Value)(g:Gr)(l:List Bool)(w:World)(h:Ao w v g)(hu:Bc w u l)(hl:l.length≤1000000):Calls Tryz.prog 81 #[v,u] w (GX w (Aw g l)):=by
 refine(Tb v u g l w h hu hl).mono ?_;rintro e w1 ⟨rv,rfl,⟨vals,hr⟩,hb⟩;exact⟨rv,rfl,hr.at,hb⟩
end Go.Proofs.YtlhpjfnfemebdaaGreat
