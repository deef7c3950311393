/-
  edges.Keep: the closure that tells. edges.Keep.
-/
import Derived.Test.YtlhpjfnfemebdaaGreatMade2
import Derived.Laws.EntriesVeiled
set_option maxRecDepth 100000
set_option maxHeartbeats 64000000
set_option linter.unusedSimpArgs false
namespace Go.Proofs.YtlhpjfnfemebdaaGreat
open Go.RowKit
def CT(l:List Bool)(e:Ed):Ed×Bool:=(e,Cz l e.1&&Cz l e.2.2)
theorem VC(l:List Bool)(v:Value)(w0:World)(b c:Nat)(h:Bc w0 v l)(hl:l.length≤9223372036854775807)(hb:w0.cell? ⟨b,0,none⟩=some v)(hc:w0.cell? ⟨c,0,none⟩=some (.func (.func 113) #[] #[.pointer (some ⟨b,0,none⟩)])):
 XB 115 #[.pointer (some ⟨c,0,none⟩)] w0 (CT l):=by
 refine⟨enters_of Tryz.func115 (by kernel_rfl) rfl,?_⟩;rintro⟨x,y,z⟩ w hx hz hw;have hE':∀(args:Array Value) (w:World),(callFunc 113 args).run Tryz.prog w=.ok (.enter 113 args) w:=enters_of Tryz.func113 (by kernel_rfl) rfl;have hw2:=(hw.trans ((Ae w (.cells #[.int .i64 x,.int .i64 y,.int .i64 z] 54)).mono hw.size)).trans ((Ae (w.alloc (.cells #[.int .i64 x,.int .i64 y,.int .i64 z] 54)) (.cells #[.int .i64 0,.int .i64 0,.int .i64 0] 54)).mono (by have:=hw.size;simp;omega));have HI:=Aa (fun i (hi:0≤i)=>fD l i hi v b ((w.alloc (.cells #[.int .i64 x,.int .i64 y,.int .i64 z] 54)).alloc (.cells #[.int .i64 0,.int .i64 0,.int .i64 0] 54)).drew (h.below hw2.drew) (Af hw2.drew hb) hl);have d:=Af hw2 hc;have EK:CT l (x,y,z)=((x,y,z),Cz l x&&Cz l z):=rfl;rw[EK];clear EK h hb hc hw hw2;have H1:=Aa (HI.out x hx);have H2:=Aa (HI.out z hz);show Calls Tryz.prog 115 #[.agg #[.int .i64 x,.int .i64 y,.int .i64 z],.pointer (some ⟨c,0,none⟩)] w _;generalize Cz l x=bx at*;generalize Cz l z=bz at*;clear HI;have HW:=Aa ((Ae w (.cells #[.int .i64 x,.int .i64 y,.int .i64 z] 54)).trans ((Ae (w.alloc (.cells #[.int .i64 x,.int .i64 y,.int .i64 z] 54)) (.cells #[.int .i64 x,.int .i64 y,.int .i64 z] 54)).mono (by simp))).drew;cases bx
 ·go_enter Tryz.func115,Tryz.ntmps115;go_wp2_with fail
  first
   | go_region_with (first
    | (go_at_call_of 113 (Value.int .i64 x);go_at_fn 113;refine H1.out.mono ?_;rintro e w' ⟨rfl,rfl⟩)
    | (go_at_call_of 113 (Value.int .i64 z);go_at_fn 113;refine H2.out.mono ?_;rintro e w' ⟨rfl,rfl⟩))
   | fail
  all_goals go_wp2_with fail
  all_goals refine Bd (v:=.tuple #[.agg #[.int .i64 x,.int .i64 y,.int .i64 z],.bool false]) (by simp[results,Tryz.results115,go_sem]) rfl ?_
  all_goals exact⟨rfl,HW.out⟩
 ·go_enter Tryz.func115,Tryz.ntmps115;go_wp2_with fail
  first
   | go_region_with (first
    | (go_at_call_of 113 (Value.int .i64 x);go_at_fn 113;refine H1.out.mono ?_;rintro e w' ⟨rfl,rfl⟩)
    | (go_at_call_of 113 (Value.int .i64 z);go_at_fn 113;refine H2.out.mono ?_;rintro e w' ⟨rfl,rfl⟩))
   | fail
  all_goals go_wp2_with fail
  all_goals refine Bd (v:=.tuple #[.agg #[.int .i64 x,.int .i64 y,.int .i64 z],.bool bz]) (by simp[results,Tryz.results115,go_sem]) rfl ?_
  all_goals exact⟨rfl,HW.out⟩
def Bg(g:Gr)(l:List Bool):Gr:=JI g (CT l)
theorem aP(v u:Value)(g:Gr)(l:List Bool)(w:World)(h:Ao w v g)(hu:Bc w u l)(hl:l.length≤9223372036854775807):Calls Tryz.prog 100 #[v,u] w (EM w (Bg g l)):=by
 obtain⟨sa,aa,ta,sc,ac,tc,rfl,-⟩:=h.var;obtain⟨ua,uc,rfl,-⟩:=id hu;have hb1:=Ae w (.cells #[.slice sa g.S.length sc,.slice aa g.A.length ac,.slice ta g.T.length tc] 32);have hb2:=Ae (w.alloc (.cells #[.slice sa g.S.length sc,.slice aa g.A.length ac,.slice ta g.T.length tc] 32)) (.cells #[.slice ua l.length uc] 56);have hb3:=Ae ((w.alloc (.cells #[.slice sa g.S.length sc,.slice aa g.A.length ac,.slice ta g.T.length tc] 32)).alloc (.cells #[.slice ua l.length uc] 56)) (.cells #[.slice none 0 0,.slice none 0 0,.slice none 0 0] 32);have hb4:=Ae (((w.alloc (.cells #[.slice sa g.S.length sc,.slice aa g.A.length ac,.slice ta g.T.length tc] 32)).alloc (.cells #[.slice ua l.length uc] 56)).alloc (.cells #[.slice none 0 0,.slice none 0 0,.slice none 0 0] 32)) (.cells #[.func (.func 113) #[] #[.pointer (some ⟨w.heap.size+1,0,none⟩)]] 100);have hb:=((hb1.trans (hb2.mono hb1.size)).trans (hb3.mono (hb1.trans (hb2.mono hb1.size)).size)).trans (hb4.mono ((hb1.trans (hb2.mono hb1.size)).trans (hb3.mono (hb1.trans (hb2.mono hb1.size)).size)).size);have x1:=Ah hb4 (Ah hb3 (AG (w.alloc (.cells #[.slice sa g.S.length sc,.slice aa g.A.length ac,.slice ta g.T.length tc] 32)) (.cells #[.slice ua l.length uc] 56) (w.heap.size+1) (by simp)));have x2:=Ah hb4 (AG ((w.alloc (.cells #[.slice sa g.S.length sc,.slice aa g.A.length ac,.slice ta g.T.length tc] 32)).alloc (.cells #[.slice ua l.length uc] 56)) (.cells #[.slice none 0 0,.slice none 0 0,.slice none 0 0] 32) (w.heap.size+1+1) (by simp));have x3:=AG (((w.alloc (.cells #[.slice sa g.S.length sc,.slice aa g.A.length ac,.slice ta g.T.length tc] 32)).alloc (.cells #[.slice ua l.length uc] 56)).alloc (.cells #[.slice none 0 0,.slice none 0 0,.slice none 0 0] 32)) (.cells #[.func (.func 113) #[] #[.pointer (some ⟨w.heap.size+1,0,none⟩)]] 100) (w.heap.size+1+1+1) (by simp);obtain⟨y0,y1,y2⟩:=DY (Ah hb4 (Ah hb3 (Ah hb2 (Ar w (.cells #[.slice sa g.S.length sc,.slice aa g.A.length ac,.slice ta g.T.length tc] 32)))));have HM:=Aa (YE 115 #[.pointer (some ⟨w.heap.size+1+1+1,0,none⟩)] (CT l) _ g _ (h.below hb) (VC l _ _ (w.heap.size+1) (w.heap.size+1+1+1) (hu.below hb) hl (Ab x1 0 _ rfl) (Ab x3 0 _ rfl)));have X0:=Aa x2;have HB:=Aa hb;have E:=Aa (show JI g (CT l)=Bg g l from rfl);rw[E.out]at HM;clear h hu hb hb1 hb2 hb3 hb4 x1 x2 x3;generalize Bg g l=G at*;clear E;go_enter Tryz.func100,Tryz.ntmps100;go_wp2_with (first
  | (go_at_call 114;refine HM.out.mono ?_;rintro e w1 ⟨v1,rfl,hG,hb1⟩;obtain⟨s1,s2,s3,c1,c2,c3,rfl,-⟩:=hG.var;have l1:=Ah hb1 X0.out;obtain⟨r0,r1,r2⟩:=DY l1;obtain⟨g0,g1,g2⟩:=eP l1;have HB1:=Aa (HB.out.trans (hb1.mono HB.out.size));have L1:=Aa l1;have HG:=Aa hG;clear hb1 l1 hG))
 obtain⟨q1,q2,q3,q4⟩:=TQ L1.out (.slice s1 G.S.length c1) (.slice s2 G.A.length c2) (.slice s3 G.T.length c3);refine Bd (v:=.agg #[.slice s1 G.S.length c1,.slice s2 G.A.length c2,.slice s3 G.T.length c3]) (by simp[results,Tryz.results100,go_sem,q1,q2,q3]) rfl ?_;exact⟨_,rfl,HG.out.off L1.out q4,HB1.out.trans (q4.below (fun k hk=>by omega) HB1.out.size)⟩
end Go.Proofs.YtlhpjfnfemebdaaGreat
