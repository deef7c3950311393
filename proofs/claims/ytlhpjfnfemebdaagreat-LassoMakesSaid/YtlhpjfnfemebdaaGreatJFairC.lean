/- A table as a law's argument; two numbers. -/
import Derived.Test.YtlhpjfnfemebdaaGreatFairA
import Derived.Test.YtlhpjfnfemebdaaGreatJStart
import Derived.Test.YtlhpjfnfemebdaaGreatFairB
import Derived.Test.YtlhpjfnfemebdaaGreatJActM
import Derived.StillTailTactics
set_option maxRecDepth 100000
set_option maxHeartbeats 64000000
set_option linter.unusedSimpArgs false
namespace Go.Proofs.YtlhpjfnfemebdaaGreat
open Go.RowKit
open Go.RowKit Go.ChangeShapes Go.WideShapes Go.Deep
section
variable {H:Type} {enc:TypeId×Value→H} {W:World} {r:Reach} {b0 base:Nat}
end
def Mk(n:Nat)(p:List Int):Prop:=p.Nodup∧∀x∈p,∃i:Nat,x=(i:Int)∧i<n
theorem UE(n:Nat):Mk n []:=⟨List.nodup_nil,fun x hx=>by simp at hx⟩
theorem YV{n:Nat}{p:List Int}(h:Mk n p)(k:Nat):Mk n (p.take k):=⟨h.1.sublist (List.take_sublist k p),fun x hx=>h.2 x (List.mem_of_mem_take hx)⟩
theorem Sr{n k q:Nat}{part:List Int}(hk:k<part.length)(h:Mk n (part.take k))(hq:part.getD k 0=(q:Int))(hqn:q<n)(hm:(Aj n (part.take k)).getD q false=false):Mk n (part.take (k+1)):=by
 rw[FT hk,hq];have hno:(q:Int)∉part.take k:=fun e=>by rw[(FQ hqn).2 e]at hm;cases hm
 refine⟨List.nodup_append.2 ⟨h.1,by simp,fun a ha b hb=>?_⟩,fun x hx=>?_⟩
 ·obtain rfl:=Ds.1 hb;exact fun e=>hno (e▸ha)
 ·rcases CJ.1 hx with hx | hx
  ·exact h.2 x hx
  ·obtain rfl:=Ds.1 hx;exact⟨q,rfl,hqn⟩
theorem Jn{n k q:Nat}{part:List Int}(hk:k<part.length)(hq:part.getD k 0=(q:Int)):(Aj n (part.take k)).set q true=Aj n (part.take (k+1)):=by
 refine List.ext_getElem (by rw[List.length_set,Cn,Cn]) fun i h1 h2=>?_;rw[Cn]at h2;have e1:(Aj n (part.take (k+1)))[i]'(by rw[Cn];exact h2)=decide ((i:Int)∈part.take (k+1)):=by simp[Aj,BV]
 have e2:(Aj n (part.take k))[i]'(by rw[Cn];exact h2)=decide ((i:Int)∈part.take k):=by simp[Aj,BV]
 rw[e1,List.getElem_set,e2,FT hk,hq];by_cases e:q=i
 ·subst e;simp
 ·rw[if_neg e];refine Dz ?_;rw[CJ,Ds];exact⟨.inl,fun h=>h.elim id (fun h=>absurd (by omega) e)⟩
theorem UB{n k:Nat}{part:List Int}(hk:k<part.length)(h:¬(0≤part.getD k 0∧part.getD k 0<(n:Int))):¬Mk n part:=fun ho=>by
 obtain⟨i,e,hi⟩:=ho.2 _ (Ch hk);rw[e]at h;omega
theorem Pu{n k q:Nat}{part:List Int}(hk:k<part.length)(hq:part.getD k 0=(q:Int))(hqn:q<n)(hm:(Aj n (part.take k)).getD q false=true):¬Mk n part:=fun ho=>by
 have h1:=(YV ho (k+1)).1;rw[FT hk,hq]at h1;exact(List.nodup_append.1 h1).2.2 _ ((FQ hqn).1 hm) _ (Ds.2 rfl) rfl
theorem Kz(n:Nat):Aj n []=List.replicate n false:=by
 unfold Aj;rw[← PC];exact Cs fun x _=>by simp
structure Tp(w0 wr:World)(l:List Bool):Prop where
 below:Below w0.heap.size w0 wr
 blk:wr.heap[w0.heap.size]?=some (.cells (bools l) 4 (0,0))
theorem Tp.set{w0 wr:World}{l:List Bool}(h:Tp w0 wr l)(q:Nat)(b:Bool):Tp w0 (wr.setCell ⟨w0.heap.size,q,none⟩ (.bool b)) (l.set q b):=
 ⟨h.below.setCell (p:=⟨w0.heap.size,q,none⟩) (AQ _) _,by rw[Ac h.blk,EW]⟩
theorem Tp.cell{w0 wr:World}{l:List Bool}(h:Tp w0 wr l){q:Nat}(hq:q<l.length):wr.cell? ⟨w0.heap.size,q,none⟩=some (.bool (l.getD q false)):=Ab h.blk q _ (Co _ q hq)
theorem Tp.free{w0 wr:World}{l:List Bool}(h:Tp w0 wr l)(q:Nat):wr.frozen? ⟨w0.heap.size,q,none⟩=false:=Ag h.blk q
theorem Tp.same{w0 wr:World}{l l':List Bool}(h:Tp w0 wr l)(e:l=l'):Tp w0 wr l':=e▸h
open Classical in
noncomputable def AU(g:Gr)(en:List (List Bool))(ag how:Int)(part:List Int):Bool:=
 decide (RT g en ag∧Mk (Ad g) part∧(Aw g (Aj (Ad g) part)).length=1∧((how=1∧Bb g en GQ ag.toNat part=true)∨(how=2∧Bb g en Ga ag.toNat part=true)))
open Classical in
theorem EH{g:Gr}{en:List (List Bool)}{ag how:Int}{part:List Int}(h:¬(RT g en ag∧Mk (Ad g) part∧(Aw g (Aj (Ad g) part)).length=1∧((how=1∧Bb g en GQ ag.toNat part=true)∨(how=2∧Bb g en Ga ag.toNat part=true)))):AU g en ag how part=false:=Cj h
open Classical in
theorem CW{g:Gr}{en:List (List Bool)}{ag how:Int}{part:List Int}:AU g en ag how part=true↔(RT g en ag∧Mk (Ad g) part∧(Aw g (Aj (Ad g) part)).length=1∧((how=1∧Bb g en GQ ag.toNat part=true)∨(how=2∧Bb g en Ga ag.toNat part=true))):=EU
theorem ZQ{g:Gr}{en:List (List Bool)}{A:Nat}{part:List Int}(h:RT g en (A:Nat))(ho:Mk (Ad g) part):AU g en (A:Nat) 1 part=(decide ((Aw g (Aj (Ad g) part)).length=1)&&Bb g en GQ A part):=by
 rw[Bool.eq_iff_iff,CW,Ci,EU,BT];exact⟨fun q=>⟨q.2.2.1,q.2.2.2.elim (fun z=>z.2) (fun z=>absurd z.1 (by omega))⟩,fun q=>⟨h,ho,q.1,.inl ⟨rfl,q.2⟩⟩⟩
theorem ZV{g:Gr}{en:List (List Bool)}{A:Nat}{part:List Int}(h:RT g en (A:Nat))(ho:Mk (Ad g) part):AU g en (A:Nat) 2 part=(decide ((Aw g (Aj (Ad g) part)).length=1)&&Bb g en Ga A part):=by
 rw[Bool.eq_iff_iff,CW,Ci,EU,BT];exact⟨fun q=>⟨q.2.2.1,q.2.2.2.elim (fun z=>absurd z.1 (by omega)) (fun z=>z.2)⟩,fun q=>⟨h,ho,q.1,.inr ⟨rfl,q.2⟩⟩⟩
theorem Qd{g:Gr}{en:List (List Bool)}{ag how:Int}{part:List Int}(h1:how≠1)(h2:how≠2):AU g en ag how part=false:=
 EH fun q=>q.2.2.2.elim (fun z=>h1 z.1) (fun z=>h2 z.1)
open Classical in
theorem Ti{g:Gr}{en:List (List Bool)}{ag how:Int}{part:List Int}(h:Tn g en ag=false):AU g en ag how part=false:=
 EH fun q=>by
  unfold Tn at h;exact of_decide_eq_false h q.1
theorem Uv{g:Gr}{en:List (List Bool)}{A:Nat}{how:Int}{sp:Nat→Nat→Bool}{part:List Int}(hh:how=1∧sp=GQ∨how=2∧sp=Ga)(h:RT g en (A:Nat))(ho:Mk (Ad g) part):AU g en (A:Nat) how part=(decide ((Aw g (Aj (Ad g) part)).length=1)&&Bb g en sp A part):=by
 rcases hh with⟨rfl,rfl⟩ | ⟨rfl,rfl⟩
 ·exact ZQ h ho
 ·exact ZV h ho
theorem aU {how:Int} {sp:Nat→Nat→Bool} (hh:how=1∧sp=GQ∨how=2∧sp=Ga) (v u pv:Value) (g:Gr) (en:List (List Bool)) (A:Nat) (part:List Int) (w:World) (h:Ao w v g) (hu:AO w u en) (hp:Am w pv part) (hA:A≤100)
 (hrows:∀i,i<en.length→(en.getD i []).length=A) (hin:∀x∈part,0≤x∧x<(en.length:Int)) (hel:en.length≤1000000) (hl:part.length≤1000000):
 Calls Tryz.prog 44 #[v,u,.int .i64 (A:Nat),.int .i64 how,pv] w fun e w'=>e=.returned (.bool (Bb g en sp A part))∧Below w.heap.size w w':=by
 rcases hh with⟨rfl,rfl⟩ | ⟨rfl,rfl⟩
 ·exact Ok v u pv g en A part w h hu hp hA hrows hin hel hl
 ·exact Ki v u pv g en A part w h hu hp hA hrows hin hel hl
theorem Vg(v u pv:Value)(g:Gr)(en:List (List Bool))(ag how:Int)(sp:Nat→Nat→Bool)(hh:how=1∧sp=GQ∨how=2∧sp=Ga)(part:List Int)(w:World)(h:Ao w v g)(hu:AO w u en)(hp:Am w pv part)(hl:part.length≤1000000)(hn:Ad g≤100000):
 Calls Tryz.prog 47 #[v,u,.int .i64 ag,.int .i64 how,pv] w fun e w'=>e=.returned (.bool (AU g en ag how part))∧Below w.heap.size w w':=by
 obtain⟨sa,aa,ta,sc,ac,tc,rfl,-⟩:=h.var;have hb:=Ae w (.cells #[.slice sa g.S.length sc,.slice aa g.A.length ac,.slice ta g.T.length tc] 32);have HB:=Aa hb;have X0:=Aa (Ar w (.cells #[.slice sa g.S.length sc,.slice aa g.A.length ac,.slice ta g.T.length tc] 32));have HR:=Aa (fun(w':World) (hb:Below w.heap.size w w')=>QN _ u g en ag w' (h.below hb) (hu.below hb));cases hr:Tn g en ag
 ·have E:AU g en ag how part=false:=Ti hr;rw[hr]at HR;rw[E];clear h hb hu hr E;go_enter Tryz.func47,Tryz.ntmps47;go_wp2_with (go_at_call 42;refine(HR.out _ HB.out).mono ?_;rintro e w1 ⟨rfl,hb1⟩;have HB1:=Aa (HB.out.trans (hb1.mono HB.out.size));clear hb1)
  go_ret;exact⟨rfl,HB1.out⟩
 have hRT:=Nu hr;obtain⟨A,rfl,hA,hrows⟩:=hRT.nat;rw[hr]at HR;have hlen:=hRT.len;have hNE:Ad g=en.length:=by omega
 have HBAD:Hid (∀k,k<part.length→¬(0≤part.getD k 0∧part.getD k 0<(Ad g:Int))→AU g en (A:Nat) how part=false):=Aa (fun k hk hx=>EH fun q=>UB hk hx q.2.1);have HTW:Hid (∀k q:Nat,k<part.length→part.getD k 0=(q:Int)→q<Ad g→(Aj (Ad g) (part.take k)).getD q false=true→AU g en (A:Nat) how part=false):=Aa (fun k q hk hq hqn hx=>EH fun z=>Pu hk hq hqn hx z.2.1);have HST:Hid (∀k q:Nat,k<part.length→part.getD k 0=(q:Int)→q<Ad g→Mk (Ad g) (part.take k)→(Aj (Ad g) (part.take k)).getD q false=false→Mk (Ad g) (part.take (k+1))∧(Aj (Ad g) (part.take k)).set q true=Aj (Ad g) (part.take (k+1))):=Aa (fun k q hk hq hqn ho hx=>⟨Sr hk ho hq hqn hx,Jn hk hq⟩);have HEND:Hid (Mk (Ad g) (part.take part.length)→AU g en (A:Nat) how part=(decide ((Aw g (Aj (Ad g) (part.take part.length))).length=1)&&Bb g en sp A part)):=Aa (fun ho=>by
  rw[Ez]at ho ⊢;exact Uv hh hRT ho)
 have K0:Hid (Mk (Ad g) (part.take 0)):=Aa (UE _);have HML:Hid (∀p,(Aj (Ad g) p).length=Ad g):=Aa (Cn _);have T0:Hid (Aj (Ad g) (part.take 0)=List.replicate (Ad g) false):=Aa (Kz _);have HWI:=Aa (fun(w':World) (hb:Below w.heap.size w w') (mv:Value) (p:List Int) (hk:Bc w' mv (Aj (Ad g) p))=>(by have q:=Mf _ mv g _ w' (h.below hb) hk (by rw[Cn];omega);rw[← Le]at q;exact q:Calls Tryz.prog 76 #[.agg #[.slice sa g.S.length sc,.slice aa g.A.length ac,.slice ta g.T.length tc],mv] w' (GX w' (Aw g (Aj (Ad g) p)))));have HF:=Aa (fun(ho:∀x∈part,0≤x∧x<(en.length:Int)) (w':World) (hb:Below w.heap.size w w')=>aU hh _ u pv g en A part w' (h.below hb) (hu.below hb) (hp.below hb) hA hrows ho (by omega) hl);have HO:Hid (Mk (Ad g) (part.take part.length)→∀x∈part,0≤x∧x<(en.length:Int)):=Aa (fun ho x hx=>by
  rw[Ez]at ho;obtain⟨i,rfl,hi⟩:=ho.2 x hx;omega)
 obtain⟨ua,uc,rfl,-⟩:=hu;obtain⟨pa,pc,rfl,hpc⟩:=hp;have HP:=Aa hpc;have hNl:Ad g≤100000:=hn;clear h hb hr hRT hlen hrows hpc hn;rw[← hNE]at*;generalize AU g en (A:Nat) how part=GB at*;generalize Bb g en sp A part=FB at*;generalize Aw g=WN at*;generalize Aj (Ad g)=MK at*;generalize Ad g=N at*;obtain⟨n,hnn⟩:∃n,part.length=n:=⟨_,rfl⟩;rw[hnn]at HP HBAD HTW HST HEND HO HF hl ⊢;clear hnn hNE;rcases hh with⟨rfl,rfl⟩ | ⟨rfl,rfl⟩
 all_goals
  go_enter Tryz.func47,Tryz.ntmps47;go_wp2_with (first
   | (go_at_call 42;refine(HR.out _ HB.out).mono ?_;rintro e w1 ⟨rfl,hb1⟩;have HBQ:=Aa (HB.out.trans (hb1.mono HB.out.size));have X3:=Aa (Ah hb1 X0.out);clear hb1)
   | (at_make;refine BE _ rfl (.tmp 27) (.tmp 27) 56 rfl 4 (.bool false) rfl 1 Tryz.underlying56 Tryz.info4 .i64 .i64 (N:Nat) (N:Nat) N rfl rfl rfl rfl (by omega) (by unfold maxLen;omega) ?_;intro w4 hh4 hb4 hlt4;have M0:=Aa (show Tp w1 w4 (MK (part.take 0)) from⟨hb4,by rw[T0.out,BJ];simpa using hh4⟩);clear hb4 hh4 hlt4))
  go_loopg [12] n (fun fu c wr=>∃k:Nat,k+fu=n∧c=.int .i64 k∧Hid (Mk N (part.take k))∧Hid (Tp w1 wr (MK (part.take k))))
  case atStart=>exact⟨0,by omega,rfl,K0,M0⟩
  case round=>
   clear M0 K0;obtain⟨k,hk,rfl,HK,HM⟩:=hrel;by_cases hlt:k<n
   ·have z1:(k:Int)<(n:Int):=by omega
    obtain⟨b1,o1,rfl,d1⟩:=HP.out k hlt;have d1:=Af (HBQ.out.trans (HM.out.below.mono HBQ.out.size)) d1;by_cases h0:part.getD k 0<0
    ·have E:=Aa (HBAD.out k hlt (by omega));clear HBAD HTW HST;generalize part.getD k 0=x at*;go_wp2_with fail
     go_ret;exact⟨by rw[E.out];rfl,HBQ.out.trans (HM.out.below.mono HBQ.out.size)⟩
    by_cases h1:(N:Int)≤part.getD k 0
    ·have E:=Aa (HBAD.out k hlt (by omega));clear HBAD HTW HST;generalize part.getD k 0=x at*;go_wp2_with fail
     go_ret;exact⟨by rw[E.out];rfl,HBQ.out.trans (HM.out.below.mono HBQ.out.size)⟩
    obtain⟨q,hq⟩:∃q:Nat,part.getD k 0=(q:Int):=⟨(part.getD k 0).toNat,by omega⟩;have hqN:q<N:=by omega
    have TW:=Aa (HTW.out k q hlt hq hqN);have STP:=Aa (HST.out k q hlt hq hqN HK.out);rw[hq]at d1 h0 h1;have z2:(q:Int)<(N:Int):=by omega
    have d2:=HM.out.cell (q:=q) (by rw[HML.out];exact hqN);have d3:=HM.out.free q;clear HBAD HTW HST hq;cases hx:(MK (part.take k)).getD q false
    ·rw[hx]at d2;have E:=Aa (STP.out hx);have HM2:=Aa ((HM.out.set q true).same E.out.2);clear hx TW STP;go_wp2_with fail
     go_roundg (n - (k+1))
     case measure=>omega
     case rel=>exact⟨k+1,by omega,by simp,Aa E.out.1,HM2⟩
    ·rw[hx]at d2;have E:=Aa (TW.out hx);clear hx TW STP;go_wp2_with fail
     go_ret;exact⟨by rw[E.out];rfl,HBQ.out.trans (HM.out.below.mono HBQ.out.size)⟩
   ·obtain rfl:k=n:=by omega
    have HBW:=Aa (HBQ.out.trans (HM.out.below.mono HBQ.out.size));have HIN:=Aa (HWI.out _ HBW.out _ _ (CH HM.out.blk (HML.out _).symm N));have E:=Aa (HEND.out HK.out);have HF:=Aa (HF.out (HO.out HK.out));have X5:=Aa (Ah HM.out.below X3.out);obtain⟨c0,c1,c2⟩:=DY X5.out;clear HEND HBAD HTW HST;by_cases hr:(WN (MK (part.take k))).length=1
    ·have hr2:(((WN (MK (part.take k))).length:Int)==1)=true:=by simp[hr]
     go_wp2_with (first
      | (go_at_call 76;refine HIN.out.mono ?_;rintro e w5 ⟨rv,rfl,⟨ra,rc,rfl,-⟩,hb5⟩;have HB5:=Aa (HBW.out.trans (hb5.mono HBW.out.size));have X6:=Aa (Ah hb5 X5.out);obtain⟨e0,e1,e2⟩:=DY X6.out;clear hb5)
      | (go_at_call 44;refine(HF.out _ HB5.out).mono ?_;rintro e w6 ⟨rfl,hb6⟩;have HB6:=Aa (HB5.out.trans (hb6.mono HB5.out.size));clear hb6))
     go_ret;exact⟨by rw[E.out];simp[hr],HB6.out⟩
    ·have hr2:(((WN (MK (part.take k))).length:Int)==1)=false:=by
      have:((WN (MK (part.take k))).length:Int)≠1:=by omega
      simp[this]
     go_wp2_with (go_at_call 76;refine HIN.out.mono ?_;rintro e w5 ⟨rv,rfl,⟨ra,rc,rfl,-⟩,hb5⟩;have HB5:=Aa (HBW.out.trans (hb5.mono HBW.out.size));clear hb5)
     go_ret;exact⟨by rw[E.out];simp[hr],HB5.out⟩
theorem Ys(v u pv:Value)(g:Gr)(en:List (List Bool))(ag how:Int)(FN:Nat)(sp:Nat→Nat→Bool)(hh:how=1∧sp=GQ∨how=2∧sp=Ga)(hM:∀w:World,Calls Tryz.prog 79 #[.int .i64 how] w fun e w'=>e=.returned (.tuple #[Hp FN,.bool true])∧Below w.heap.size w w')(hsp:YZ FN sp)(part:List Int)(w:World)(h:Ao w v g)(hu:AO w u en)(hp:Am w pv part)(hl:part.length≤1000000)(hn:Ad g≤100000):
 Calls Tryz.prog 52 #[v,u,.int .i64 ag,.int .i64 how,pv] w fun e w'=>e=.returned (.bool (AU g en ag how part))∧Below w.heap.size w w':=by
 have HM0:=Aa hM;clear hM;obtain⟨sa,aa,ta,sc,ac,tc,rfl,-⟩:=h.var;have hb:=Ae w (.cells #[.slice sa g.S.length sc,.slice aa g.A.length ac,.slice ta g.T.length tc] 32);have HB:=Aa hb;have X0:=Aa (Ar w (.cells #[.slice sa g.S.length sc,.slice aa g.A.length ac,.slice ta g.T.length tc] 32));have HR:=Aa (fun(w':World) (hb:Below w.heap.size w w')=>fO _ u g en ag w' (h.below hb) (hu.below hb));cases hr:Tn g en ag
 ·have E:AU g en ag how part=false:=Ti hr;rw[hr]at HR;rw[E];clear hh h hb hu hr E;go_enter Tryz.func52,Tryz.ntmps52;go_wp2_with (first
   | (go_at_call 79;refine(HM0.out _).mono ?_;rintro e w2 ⟨rfl,hb2⟩;unfold Hp;have HB1:=Aa (HB.out.trans (hb2.mono HB.out.size));have X2:=Aa (Ah (Ae _ (.cells #[.func (.func FN) #[] #[]] 126)) (Ah hb2 X0.out));have M2:=Aa (Ar w2 (.cells #[.func (.func FN) #[] #[]] 126));have HB2:=Aa (HB1.out.trans ((Ae w2 (.cells #[.func (.func FN) #[] #[]] 126)).mono HB1.out.size));obtain⟨c0,c1,c2⟩:=DY X2.out;clear hb2)
   | (go_at_call 80;refine(HR.out _ HB2.out).mono ?_;rintro e w3 ⟨rfl,hb3⟩;have HB3:=Aa (HB2.out.trans (hb3.mono HB2.out.size));clear hb3))
  go_ret;exact⟨rfl,HB3.out⟩
 have hRT:=Nu hr;obtain⟨A,rfl,hA,hrows⟩:=hRT.nat;rw[hr]at HR;have hlen:=hRT.len;have hNE:Ad g=en.length:=by omega
 have HBAD:Hid (∀k,k<part.length→¬(0≤part.getD k 0∧part.getD k 0<(Ad g:Int))→AU g en (A:Nat) how part=false):=Aa (fun k hk hx=>EH fun q=>UB hk hx q.2.1);have HTW:Hid (∀k q:Nat,k<part.length→part.getD k 0=(q:Int)→q<Ad g→(Aj (Ad g) (part.take k)).getD q false=true→AU g en (A:Nat) how part=false):=Aa (fun k q hk hq hqn hx=>EH fun z=>Pu hk hq hqn hx z.2.1);have HST:Hid (∀k q:Nat,k<part.length→part.getD k 0=(q:Int)→q<Ad g→Mk (Ad g) (part.take k)→(Aj (Ad g) (part.take k)).getD q false=false→Mk (Ad g) (part.take (k+1))∧(Aj (Ad g) (part.take k)).set q true=Aj (Ad g) (part.take (k+1))):=Aa (fun k q hk hq hqn ho hx=>⟨Sr hk ho hq hqn hx,Jn hk hq⟩);have HEND:Hid (Mk (Ad g) (part.take part.length)→AU g en (A:Nat) how part=(decide ((Aw g (Aj (Ad g) (part.take part.length))).length=1)&&Bb g en sp A part)):=Aa (fun ho=>by
  rw[Ez]at ho ⊢;exact Uv hh hRT ho)
 have K0:Hid (Mk (Ad g) (part.take 0)):=Aa (UE _);have HML:Hid (∀p,(Aj (Ad g) p).length=Ad g):=Aa (Cn _);have T0:Hid (Aj (Ad g) (part.take 0)=List.replicate (Ad g) false):=Aa (Kz _);have HWI:=Aa (fun(w':World) (hb:Below w.heap.size w w') (mv:Value) (p:List Int) (hk:Bc w' mv (Aj (Ad g) p))=>TX _ mv g _ w' (h.below hb) hk (by rw[Cn];omega));have HF:=Aa (fun(ho:∀x∈part,0≤x∧x<(en.length:Int)) (w':World) (hb:Below w.heap.size w w') (tv:Value) (ht:eE (.agg #[.slice sa g.S.length sc,.slice aa g.A.length ac,.slice ta g.T.length tc]) u A tv)=>bN hsp _ u pv tv g en A part w' ht (h.below hb) (hu.below hb) (hp.below hb) hA hrows ho (by omega) hl hRT.wf);have HO:Hid (Mk (Ad g) (part.take part.length)→∀x∈part,0≤x∧x<(en.length:Int)):=Aa (fun ho x hx=>by
  rw[Ez]at ho;obtain⟨i,rfl,hi⟩:=ho.2 x hx;omega)
 obtain⟨ua,uc,rfl,-⟩:=hu;obtain⟨pa,pc,rfl,hpc⟩:=hp;have HP:=Aa hpc;have hNl:Ad g≤100000:=hn;clear h hb hr hRT hlen hrows hpc hn;rw[← hNE]at*;generalize AU g en (A:Nat) how part=GB at*;generalize Bb g en sp A part=FB at*;generalize Aw g=WN at*;generalize Aj (Ad g)=MK at*;generalize Ad g=N at*;obtain⟨n,hnn⟩:∃n,part.length=n:=⟨_,rfl⟩;rw[hnn]at HP HBAD HTW HST HEND HO HF hl ⊢;clear hnn hNE;go_enter Tryz.func52,Tryz.ntmps52;go_wp2_with (first
  | (go_at_call 79;refine(HM0.out _).mono ?_;rintro e w2 ⟨rfl,hb2⟩;unfold Hp;have HB1:=Aa (HB.out.trans (hb2.mono HB.out.size));have X2:=Aa (Ah (Ae _ (.cells #[.func (.func FN) #[] #[]] 126)) (Ah hb2 X0.out));have M2:=Aa (Ar w2 (.cells #[.func (.func FN) #[] #[]] 126));have HB2:=Aa (HB1.out.trans ((Ae w2 (.cells #[.func (.func FN) #[] #[]] 126)).mono HB1.out.size));obtain⟨c0,c1,c2⟩:=DY X2.out;clear hb2)
  | (go_at_call 80;refine(HR.out _ HB2.out).mono ?_;rintro e w3 ⟨rfl,hb3⟩;have HBQ:=Aa (HB2.out.trans (hb3.mono HB2.out.size));have X3:=Aa (Ah hb3 X2.out);have M3:=Aa (Ah hb3 M2.out);clear hb3)
  | (at_make;refine BE _ rfl (.tmp 31) (.tmp 31) 56 rfl 4 (.bool false) rfl 1 Tryz.underlying56 Tryz.info4 .i64 .i64 (N:Nat) (N:Nat) N rfl rfl rfl rfl (by omega) (by unfold maxLen;omega) ?_;intro w4 hh4 hb4 hlt4;have M0:=Aa (show Tp w3 w4 (MK (part.take 0)) from⟨hb4,by rw[T0.out,BJ];simpa using hh4⟩);clear hb4 hh4 hlt4))
 clear c0 c1 c2;go_loopg [35] n (fun fu c wr=>∃k:Nat,k+fu=n∧c=.int .i64 k∧Hid (Mk N (part.take k))∧Hid (Tp w3 wr (MK (part.take k))))
 case atStart=>exact⟨0,by omega,rfl,K0,M0⟩
 case round=>
  clear M0 K0;obtain⟨k,hk,rfl,HK,HM⟩:=hrel;by_cases hlt:k<n
  ·have z1:(k:Int)<(n:Int):=by omega
   obtain⟨b1,o1,rfl,d1⟩:=HP.out k hlt;have d1:=Af (HBQ.out.trans (HM.out.below.mono HBQ.out.size)) d1;by_cases h0:part.getD k 0<0
   ·have E:=Aa (HBAD.out k hlt (by omega));clear HBAD HTW HST;generalize part.getD k 0=x at*;go_wp2_with fail
    go_ret;exact⟨by rw[E.out];rfl,HBQ.out.trans (HM.out.below.mono HBQ.out.size)⟩
   by_cases h1:(N:Int)≤part.getD k 0
   ·have E:=Aa (HBAD.out k hlt (by omega));clear HBAD HTW HST;generalize part.getD k 0=x at*;go_wp2_with fail
    go_ret;exact⟨by rw[E.out];rfl,HBQ.out.trans (HM.out.below.mono HBQ.out.size)⟩
   obtain⟨q,hq⟩:∃q:Nat,part.getD k 0=(q:Int):=⟨(part.getD k 0).toNat,by omega⟩;have hqN:q<N:=by omega
   have TW:=Aa (HTW.out k q hlt hq hqN);have STP:=Aa (HST.out k q hlt hq hqN HK.out);rw[hq]at d1 h0 h1;have z2:(q:Int)<(N:Int):=by omega
   have d2:=HM.out.cell (q:=q) (by rw[HML.out];exact hqN);have d3:=HM.out.free q;clear HBAD HTW HST hq;cases hx:(MK (part.take k)).getD q false
   ·rw[hx]at d2;have E:=Aa (STP.out hx);have HM2:=Aa ((HM.out.set q true).same E.out.2);clear hx TW STP;go_wp2_with fail
    go_roundg (n - (k+1))
    case measure=>omega
    case rel=>exact⟨k+1,by omega,by simp,Aa E.out.1,HM2⟩
   ·rw[hx]at d2;have E:=Aa (TW.out hx);clear hx TW STP;go_wp2_with fail
    go_ret;exact⟨by rw[E.out];rfl,HBQ.out.trans (HM.out.below.mono HBQ.out.size)⟩
  ·obtain rfl:k=n:=by omega
   have HBW:=Aa (HBQ.out.trans (HM.out.below.mono HBQ.out.size));have HIN:=Aa (HWI.out _ HBW.out _ _ (CH HM.out.blk (HML.out _).symm N));have E:=Aa (HEND.out HK.out);have HF:=Aa (HF.out (HO.out HK.out));have X5:=Aa (Ah HM.out.below X3.out);obtain⟨c0,c1,c2⟩:=DY X5.out;have M5:=Aa (Ah HM.out.below M3.out);clear HEND HBAD HTW HST;by_cases hr:(WN (MK (part.take k))).length=1
   ·have hr2:(((WN (MK (part.take k))).length:Int)==1)=true:=by simp[hr]
    go_wp2_with (first
     | (go_at_call 81;refine HIN.out.mono ?_;rintro e w5 ⟨rv,rfl,⟨ra,rc,rfl,-⟩,hb5⟩;have HB5:=Aa (HBW.out.trans (hb5.mono HBW.out.size));have X6:=Aa (Ah hb5 X5.out);obtain⟨e0,e1,e2⟩:=DY X6.out;have e3:=Ab (Ah hb5 M5.out) 0 _ rfl;clear hb5)
     | (go_at_call 82;refine(HF.out _ HB5.out _ ⟨_,_,_,rfl,rfl⟩).mono ?_;rintro e w6 ⟨rfl,hb6⟩;have HB6:=Aa (HB5.out.trans (hb6.mono HB5.out.size));clear hb6))
    go_ret;exact⟨by rw[E.out];simp[hr],HB6.out⟩
   ·have hr2:(((WN (MK (part.take k))).length:Int)==1)=false:=by
     have:((WN (MK (part.take k))).length:Int)≠1:=by omega
     simp[this]
    go_wp2_with (go_at_call 81;refine HIN.out.mono ?_;rintro e w5 ⟨rv,rfl,⟨ra,rc,rfl,-⟩,hb5⟩;have HB5:=Aa (HBW.out.trans (hb5.mono HBW.out.size));clear hb5)
    go_ret;exact⟨by rw[E.out];simp[hr],HB5.out⟩
theorem Tv(how:Int)(w:World)(h1:how≠1)(h2:how≠2):Calls Tryz.prog 79 #[.int .i64 how] w fun e w'=>e=.returned (.tuple #[.agg #[.nilFunc],.bool false])∧Below w.heap.size w w':=by
 have n1:(how==1)=false:=by simp[h1]
 have n2:(how==2)=false:=by simp[h2]
 go_enter Tryz.func79,Tryz.ntmps79;go_wp2_with fail
 refine Bd (v:=.tuple #[.agg #[.nilFunc],.bool false]) (by simp[results,Tryz.results79,go_sem]) rfl ?_;exact⟨rfl,Ae w _⟩
theorem dM(v u pv:Value)(g:Gr)(en:List (List Bool))(ag how:Int)(part:List Int)(w:World)(h:Ao w v g)(hu:AO w u en)(hp:Am w pv part)(h1:how≠1)(h2:how≠2):
 Calls Tryz.prog 52 #[v,u,.int .i64 ag,.int .i64 how,pv] w fun e w'=>e=.returned (.bool (AU g en ag how part))∧Below w.heap.size w w':=by
 rw[Qd h1 h2];obtain⟨sa,aa,ta,sc,ac,tc,rfl,-⟩:=h.var;have hb:=Ae w (.cells #[.slice sa g.S.length sc,.slice aa g.A.length ac,.slice ta g.T.length tc] 32);have HB:=Aa hb;have X0:=Aa (Ar w (.cells #[.slice sa g.S.length sc,.slice aa g.A.length ac,.slice ta g.T.length tc] 32));obtain⟨ua,uc,rfl,-⟩:=hu;obtain⟨pa,pc,rfl,-⟩:=hp;clear h hb;go_enter Tryz.func52,Tryz.ntmps52;go_wp2_with (go_at_call 79;refine(Tv _ _ h1 h2).mono ?_;rintro e w2 ⟨rfl,hb2⟩;have HB1:=Aa (HB.out.trans (hb2.mono HB.out.size));clear hb2)
 go_ret;exact⟨rfl,HB1.out.trans ((Ae w2 _).mono HB1.out.size)⟩
theorem aC(v u pv:Value)(g:Gr)(en:List (List Bool))(ag how:Int)(part:List Int)(w:World)(h:Ao w v g)(hu:AO w u en)(hp:Am w pv part)(h1:how≠1)(h2:how≠2):
 Calls Tryz.prog 47 #[v,u,.int .i64 ag,.int .i64 how,pv] w fun e w'=>e=.returned (.bool (AU g en ag how part))∧Below w.heap.size w w':=by
 rw[Qd h1 h2];obtain⟨sa,aa,ta,sc,ac,tc,rfl,-⟩:=h.var;have hb:=Ae w (.cells #[.slice sa g.S.length sc,.slice aa g.A.length ac,.slice ta g.T.length tc] 32);have HB:=Aa hb;have X0:=Aa (Ar w (.cells #[.slice sa g.S.length sc,.slice aa g.A.length ac,.slice ta g.T.length tc] 32));have HR:=Aa (fun(w':World) (hb:Below w.heap.size w w')=>QN _ u g en ag w' (h.below hb) (hu.below hb));have n1:(how !=1)=true:=by simp[bne,h1]
 have n2:(how !=2)=true:=by simp[bne,h2]
 generalize Tn g en ag=r at*;obtain⟨ua,uc,rfl,-⟩:=hu;obtain⟨pa,pc,rfl,-⟩:=hp;clear h hb;cases r;all_goals
  go_enter Tryz.func47,Tryz.ntmps47;go_wp2_with (go_at_call 42;refine(HR.out _ HB.out).mono ?_;rintro e w1 ⟨rfl,hb1⟩;have HB1:=Aa (HB.out.trans (hb1.mono HB.out.size));clear hb1)
  go_ret;exact⟨rfl,HB1.out⟩
theorem Ve(v u pv:Value)(g:Gr)(en:List (List Bool))(ag how:Int)(part:List Int)(w:World)(h:Ao w v g)(hu:AO w u en)(hp:Am w pv part)(hl:part.length≤1000000)(hn:Ad g≤100000):
 Calls Tryz.prog 52 #[v,u,.int .i64 ag,.int .i64 how,pv] w fun e w'=>e=.returned (.bool (AU g en ag how part))∧Below w.heap.size w w':=by
 by_cases h1:how=1
 ·subst h1;exact Ys v u pv g en ag 1 94 GQ (.inl ⟨rfl,rfl⟩) Xf cA part w h hu hp hl hn
 by_cases h2:how=2
 ·subst h2;exact Ys v u pv g en ag 2 95 Ga (.inr ⟨rfl,rfl⟩) Se VE part w h hu hp hl hn
 exact dM v u pv g en ag how part w h hu hp h1 h2
theorem Si(v u pv:Value)(g:Gr)(en:List (List Bool))(ag how:Int)(part:List Int)(w:World)(h:Ao w v g)(hu:AO w u en)(hp:Am w pv part)(hl:part.length≤1000000)(hn:Ad g≤100000):
 Calls Tryz.prog 47 #[v,u,.int .i64 ag,.int .i64 how,pv] w fun e w'=>e=.returned (.bool (AU g en ag how part))∧Below w.heap.size w w':=by
 by_cases h1:how=1
 ·subst h1;exact Vg v u pv g en ag 1 GQ (.inl ⟨rfl,rfl⟩) part w h hu hp hl hn
 by_cases h2:how=2
 ·subst h2;exact Vg v u pv g en ag 2 Ga (.inr ⟨rfl,rfl⟩) part w h hu hp hl hn
 exact aC v u pv g en ag how part w h hu hp h1 h2
theorem Wb{g:Gr}{en:List (List Bool)}{ag:Int}(hR:RT g en ag){p:List Int}(h:Ml g en GQ ag.toNat p):AU g en ag 1 p=true:=CW.2 ⟨hR,⟨h.nd,h.inn⟩,h.one,.inl ⟨rfl,h.fair⟩⟩
theorem Wa{g:Gr}{en:List (List Bool)}{ag:Int}(hR:RT g en ag){p:List Int}(h:Ml g en Ga ag.toNat p):AU g en ag 2 p=true:=CW.2 ⟨hR,⟨h.nd,h.inn⟩,h.one,.inr ⟨rfl,h.fair⟩⟩
theorem Vv{g:Gr}{en:List (List Bool)}{sp:Nat→Nat→Bool}{A:Nat}{p:List Int}(h:Ml g en sp A p):p.length≤Ad g:=by
 have:=FU (b:=(List.range (Ad g)).map (fun k:Nat=>(k:Int))) h.nd (fun x hx=>by
  obtain⟨i,rfl,hi⟩:=h.inn x hx;exact DJ.2 ⟨i,Cg.2 hi,rfl⟩)
 simpa using this
theorem Sk{g:Gr}{en:List (List Bool)}{ag:Int}(hR:RT g en ag):EC g en ag=DN (Bb g en GQ ag.toNat) (Cd g):=by unfold EC;rw[if_pos (MC hR)]
theorem Nb{g:Gr}{en:List (List Bool)}{ag:Int}(hR:RT g en ag):Cm g en ag=Pr g en ag.toNat (Ad g) (Cd g):=by unfold Cm;rw[if_pos (MC hR)]
theorem TI{g:Gr}{en:List (List Bool)}{ag:Int}(hR:RT g en ag)(hn:g.S.length≤100000)(hl:0<(EC g en ag).length):Ml g en GQ ag.toNat (EC g en ag):=by
 rw[Sk hR]at hl ⊢;exact VR hR.right hn hl
theorem Kj{g:Gr}{en:List (List Bool)}{ag:Int}(hR:RT g en ag)(hn:g.S.length≤100000)(hl:0<(Cm g en ag).length):Ml g en Ga ag.toNat (Cm g en ag):=by
 rw[Nb hR,Cr hR.right hn]at hl ⊢;exact Rv hR.right hn _ hl
theorem WK{g:Gr}{en:List (List Bool)}{ag:Int}(hR:RT g en ag)(hn:g.S.length≤100000)(hl:0<(EC g en ag).length):∃bits,0<bits∧bits<2 ^ Ad g∧EC g en ag=KV bits (Ad g):=by
 rw[Sk hR]at hl ⊢;rcases JU (Bb g en GQ ag.toNat) (Cd g) with e | ⟨h1,-⟩
 ·rw[e]at hl;simp at hl
 ·generalize DN (Bb g en GQ ag.toNat) (Cd g)=r at*;rw[Cr hR.right hn]at h1;exact RZ hR.right hn h1
theorem UA{g:Gr}{en:List (List Bool)}{A:Nat}:∀(n:Nat) {l:List Bool},0<(Pr g en A n (Aw g l)).length→∃l',Pr g en A n (Aw g l)∈Aw g l'
 | 0,_,hp=>by simp[Pr]at hp
 | n+1,l,hp=>by
  have e:Pr g en A (n+1) (Aw g l)=Cy g en A (fun l=>Pr g en A n (Aw g (GS g en A l))) (Aw g l):=rfl;rw[e]at hp ⊢;rcases Ld (g:=g) (en:=en) (A:=A) (SUB:=fun l=>Pr g en A n (Aw g (GS g en A l))) (rows:=Aw g l) with h1 | ⟨h1,-⟩ | ⟨y,-,h2⟩
  ·rw[h1]at hp;simp at hp
  ·exact⟨l,h1⟩
  ·rw[h2]at hp ⊢;exact UA n hp
theorem Tk{g:Gr}{en:List (List Bool)}{ag:Int}(hR:RT g en ag)(hn:g.S.length≤100000)(hl:0<(Cm g en ag).length):∃bits,0<bits∧bits<2 ^ Ad g∧Cm g en ag=KV bits (Ad g):=by
 rw[Nb hR,Cr hR.right hn]at hl ⊢;obtain⟨l',h⟩:=UA _ hl;exact RZ hR.right hn h
theorem Ws{g:Gr}{en:List (List Bool)}{ag:Int}(hn:Ad g≤100000):(EC g en ag).length≤1000000:=by
 unfold EC;split
 ·rcases JU (Bb g en GQ ag.toNat) (Cd g) with e | ⟨h1,-⟩
  ·rw[e];simp
  ·have:=(IY h1).1;omega
 ·simp
theorem RD{g:Gr}{en:List (List Bool)}{ag:Int}(hS:g.S.length≤100000)(hn:Ad g≤100000):(Cm g en ag).length≤1000000:=by
 by_cases hl:0<(Cm g en ag).length
 ·cases hr:Tn g en ag
  ·have:Cm g en ag=[]:=by unfold Cm;rw[hr];rfl
   rw[this];simp
  ·have:=Vv (Kj (Nu hr) hS hl);omega
 ·omega
theorem WQ{g:Gr}{en:List (List Bool)}{ag how:Int}(hS:g.S.length≤100000)(hn:Ad g≤100000):(Dl g en ag how).length≤1000000:=by
 unfold Dl;split
 ·exact Ws hn
 ·split
  ·exact RD hS hn
  ·simp
theorem Wr{w:World}{b r0 r1:Nat}{x y z t:Bool}(h0:w.heap[r0]?=some (.cells (bools [x,y]) 4 (0,0)))(h1:w.heap[r1]?=some (.cells (bools [z,t]) 4 (0,0)))(h:w.heap[b]?=some (.cells #[.slice (some ⟨r0,0,none⟩) 2 2,.slice (some ⟨r1,0,none⟩) 2 2] 56 (0,0))):
 AO w (.slice (some ⟨b,0,none⟩) 2 2) [[x,y],[z,t]]:=
 ⟨_,2,rfl,fun j hj=>by
  have hj':j=0∨j=1:=by simp at hj;omega
  rcases hj' with rfl | rfl
  ·exact⟨_,_,_,rfl,Ab h 0 _ rfl,CH h0 rfl 2⟩
  ·exact⟨_,_,_,rfl,Ab h 1 _ rfl,CH h1 rfl 2⟩⟩
def GN(l:List Int)(k:Nat):Int:=(l.take k).foldl min (l.getD 0 0)
def Ay(l:List Int):Int:=l.foldl min (l.getD 0 0)
theorem LQ(l:List Int):GN l 0=l.getD 0 0:=rfl
theorem JY(l:List Int):GN l l.length=Ay l:=by unfold GN Ay;rw[Ez]
theorem Iy{l:List Int}{k:Nat}(h:k<l.length):GN l (k+1)=min (GN l k) (l.getD k 0):=by
 have e:l.take (k+1)=l.take k++[l.getD k 0]:=by
  rw[List.take_add_one,AM,Bf h];rfl
 unfold GN;rw[e,List.foldl_append]
 rfl
def Fq(p:Nat→Bool)(n:Nat):Int:=match (List.range n).find? p with | some i=>(i:Int) | none=>-1
theorem Nq{p:Nat→Bool}{n k:Nat}(hk:k<n)(h:∀j,j<k→p j=false)(hp:p k=true):Fq p n=(k:Int):=by
 unfold Fq;have:(List.range n).find? p=some k:=by
  rw[List.find?_range_eq_some];exact⟨hp,Cg.2 hk,fun j hj=>by rw[h j hj];rfl⟩
 rw[this]
theorem Mb{p:Nat→Bool}{n:Nat}(h:∀j,j<n→p j=false):Fq p n=-1:=by
 unfold Fq;have:(List.range n).find? p=none:=by
  rw[List.find?_range_eq_none];exact fun j hj=>by rw[h j hj];rfl
 rw[this]
theorem Ke(p:Nat→Bool)(n:Nat):(Fq p n=-1∧∀j,j<n→p j=false)∨∃k:Nat,k<n∧Fq p n=(k:Int)∧p k=true∧∀j,j<k→p j=false:=by
 unfold Fq;cases h:(List.range n).find? p with
 | none=>rw[List.find?_range_eq_none]at h;exact .inl ⟨rfl,fun j hj=>by have:=h j hj;simpa using this⟩
 | some k=>
  rw[List.find?_range_eq_some]at h;exact .inr ⟨k,Cg.1 h.2.1,rfl,h.1,fun j hj=>by have:=h.2.2 j hj;simpa using this⟩
def Mo(inl:List Bool)(a:Int)(e:Ed):Bool:=decide (e.2.1=a)&&(inl.getD e.1.toNat false&&inl.getD e.2.2.toNat false)
def JL(en:List (List Bool))(inl:List Bool)(a i:Nat):Bool:=inl.getD i false&&!(en.getD i []).getD a false
def BU(g:Gr)(en:List (List Bool))(mode:Int)(inl:List Bool)(a:Nat):Int×Int:=
 match (Av g).find? (Mo inl a) with
 | some e=>(e.1,e.2.2)
 | none=>if mode=1 then(Fq (JL en inl a) en.length,-1) else(-1,-1)
theorem Td{α:Type}{p:α→Bool}{d:α}:∀{l:List α} {k:Nat},k<l.length→(∀j,j<k→p (l.getD j d)=false)→p (l.getD k d)=true→l.find? p=some (l.getD k d)
 | [],_,h,_,_=>by simp at h
 | x::l,0,_,_,hp=>by rw[List.find?_cons_of_pos (by simpa using hp)];rfl
 | x::l,k+1,h,hj,hp=>by
  rw[List.find?_cons_of_neg (by have:=hj 0 (by omega);simpa using this)];exact Td (l:=l) (k:=k) (by simpa using h) (fun j hjk=>by have:=hj (j+1) (by omega);simpa using this) (by simpa using hp)
theorem QP{α:Type}{p:α→Bool}{d:α}{l:List α}(h:∀j,j<l.length→p (l.getD j d)=false):l.find? p=none:=by
 rw[List.find?_eq_none];intro x hx;obtain⟨j,hj,rfl⟩:=Ey hx;have:=h j hj;rw[AM,Bf hj]at this;simpa using this
theorem Nr(pv:Value)(l:List Int)(w:World)(hp:Am w pv l)(hne:0<l.length)(hl:l.length≤1000000):
 Calls Tryz.prog 26 #[pv] w fun e w'=>e=.returned (.int .i64 (Ay l))∧Below w.heap.size w w':=by
 obtain⟨a,c,rfl,hc⟩:=hp;obtain⟨b0,o0,hb0,d0⟩:=hc 0 hne;have HC:=Aa hc;have K0:=Aa (LQ l);have KA:=Aa (JY l);have KS:=Aa (fun k (hk:k<l.length)=>Iy hk);clear hc;subst hb0;obtain⟨LG,hLG⟩:∃f:Nat→Int,GN l=f:=⟨_,rfl⟩;rw[hLG]at KA K0 KS;generalize Ay l=LL at*;clear hLG;obtain⟨n,hn⟩:∃n,l.length=n:=⟨_,rfl⟩;rw[hn]at HC KA KS hne hl ⊢;clear hn;have z0:(0:Int)<(n:Int):=by omega
 rw[Nat.add_zero]at d0;generalize l.getD 0 0=x0 at d0 K0;go_enter Tryz.func26,Tryz.ntmps26;go_wp2_with fail
 go_loopg [3,11] n (fun fu x c wr=>∃k:Nat,k+fu=n∧c=.int .i64 k∧x=.int .i64 (LG k)∧Below w.heap.size w wr)
 case atStart=>exact⟨0,by omega,rfl,by rw[K0.out],Ak _ _⟩
 case round=>
  clear K0 d0;obtain⟨k,hk,rfl,rfl,hbr⟩:=hrel;by_cases hlt:k<n
  ·obtain⟨b1,o1,e1,d1⟩:=HC.out k hlt;cases e1;have y1:=Af hbr d1;have z1:(k:Int)<(n:Int):=by omega
   have KK:=Aa (KS.out k hlt);have HB:=Aa hbr;clear d1 hbr;generalize l.getD k 0=x at*;generalize LG k=m at*;by_cases hx:x<m
   ·have E:Hid (LG (k+1)=x):=Aa (by rw[KK.out];omega);go_wp2_with fail
    go_roundg (n - (k+1))
    case measure=>omega
    case rel=>exact⟨k+1,by omega,by simp,by rw[E.out],HB.out⟩
   ·have E:Hid (LG (k+1)=m):=Aa (by rw[KK.out];omega);go_wp2_with fail
    go_roundg (n - (k+1))
    case measure=>omega
    case rel=>exact⟨k+1,by omega,by simp,by rw[E.out],HB.out⟩
  ·obtain rfl:k=n:=by omega
   have E:=Aa KA.out;go_wp2_with fail
   go_ret;exact⟨by rw[E.out];rfl,hbr⟩
theorem Pm(pv:Value)(l:List Int)(w:World)(hp:Am w pv l)(hne:0<l.length)(hl:l.length≤1000000):
 Calls Tryz.prog 29 #[pv] w fun e w'=>e=.returned (.int .i64 (Ay l))∧Below w.heap.size w w':=by
 obtain⟨a,c,rfl,hc⟩:=hp;obtain⟨b0,o0,hb0,d0⟩:=hc 0 hne;have HC:=Aa hc;have K0:=Aa (LQ l);have KA:=Aa (JY l);have KS:=Aa (fun k (hk:k<l.length)=>Iy hk);clear hc;subst hb0;obtain⟨LG,hLG⟩:∃f:Nat→Int,GN l=f:=⟨_,rfl⟩;rw[hLG]at KA K0 KS;generalize Ay l=LL at*;clear hLG;obtain⟨n,hn⟩:∃n,l.length=n:=⟨_,rfl⟩;rw[hn]at HC KA KS hne hl ⊢;clear hn;have z0:(0:Int)<(n:Int):=by omega
 rw[Nat.add_zero]at d0;generalize l.getD 0 0=x0 at d0 K0;go_enter Tryz.func29,Tryz.ntmps29;go_wp2_with fail
 go_loopg [3,4] n (fun fu x c wr=>∃k:Nat,k+fu=n∧c=.int .i64 k∧x=.int .i64 (LG k)∧Below w.heap.size w wr)
 case atStart=>exact⟨0,by omega,rfl,by rw[K0.out],Ak _ _⟩
 case round=>
  clear K0 d0;obtain⟨k,hk,rfl,rfl,hbr⟩:=hrel;by_cases hlt:k<n
  ·obtain⟨b1,o1,e1,d1⟩:=HC.out k hlt;cases e1;have y1:=Af hbr d1;have z1:(k:Int)<(n:Int):=by omega
   have KK:=Aa (KS.out k hlt);have HB:=Aa hbr;clear d1 hbr;generalize l.getD k 0=x at*;generalize LG k=m at*;by_cases hx:x<m
   ·have E:Hid (LG (k+1)=x):=Aa (by rw[KK.out];omega);go_wp2_with fail
    go_roundg (n - (k+1))
    case measure=>omega
    case rel=>exact⟨k+1,by omega,by simp,by rw[E.out],HB.out⟩
   ·have E:Hid (LG (k+1)=m):=Aa (by rw[KK.out];omega);go_wp2_with fail
    go_roundg (n - (k+1))
    case measure=>omega
    case rel=>exact⟨k+1,by omega,by simp,by rw[E.out],HB.out⟩
  ·obtain rfl:k=n:=by omega
   have E:=Aa KA.out;go_wp2_with fail
   go_ret;exact⟨by rw[E.out];rfl,hbr⟩
theorem Xw(pv:Value)(part:List Int)(N:Nat)(w:World)(hp:Am w pv part)(hin:∀x∈part,∃i:Nat,x=(i:Int)∧i<N)(hN:N≤100000)(hl:part.length≤1000000):
 Calls Tryz.prog 48 #[pv,.int .i64 (N:Nat)] w fun e w'=>∃v,e=.returned v∧Bc w' v (Aj N part)∧Below w.heap.size w w':=by
 obtain⟨pa,pc,rfl,hpc⟩:=hp;have HP:=Aa hpc;have HIN:=Aa (fun k (hk:k<part.length)=>hin _ (Ch hk));have HST:Hid (∀k q:Nat,k<part.length→part.getD k 0=(q:Int)→(Aj N (part.take k)).set q true=Aj N (part.take (k+1))):=Aa (fun k q hk hq=>Jn hk hq);have HML:Hid (∀p,(Aj N p).length=N):=Aa (Cn _);have T0:Hid (Aj N (part.take 0)=List.replicate N false):=Aa (Kz _);have TA:Hid (Aj N part=Aj N (part.take part.length)):=Aa (by rw[Ez]);clear hpc hin;generalize Aj N=MK at*;obtain⟨n,hnn⟩:∃n,part.length=n:=⟨_,rfl⟩;rw[hnn]at HP HIN HST TA hl ⊢;clear hnn;go_enter Tryz.func48,Tryz.ntmps48;go_wp2_with (at_make;refine BE _ rfl (.tmp 7) (.tmp 7) 56 rfl 4 (.bool false) rfl 1 Tryz.underlying56 Tryz.info4 .i64 .i64 (N:Nat) (N:Nat) N rfl rfl rfl rfl (by omega) (by unfold maxLen;omega) ?_;intro w4 hh4 hb4 hlt4;have M0:=Aa (show Tp w w4 (MK (part.take 0)) from⟨hb4,by rw[T0.out,BJ];simpa using hh4⟩);clear hb4 hh4 hlt4)
 go_loopg [6] n (fun fu c wr=>∃k:Nat,k+fu=n∧c=.int .i64 k∧Hid (Tp w wr (MK (part.take k))))
 case atStart=>exact⟨0,by omega,rfl,M0⟩
 case round=>
  clear M0;obtain⟨k,hk,rfl,HM⟩:=hrel;by_cases hlt:k<n
  ·obtain⟨b1,o1,rfl,d1⟩:=HP.out k hlt;have y1:=Af HM.out.below d1;have z1:(k:Int)<(n:Int):=by omega
   obtain⟨q,hq,hqN⟩:=HIN.out k hlt;have HM2:=Aa ((HM.out.set q true).same (HST.out k q hlt hq));rw[hq]at y1;have c0:=HM.out.cell (q:=q) (by rw[HML.out];exact hqN);have f0:=HM.out.free q;have z2:(q:Int)<(N:Int):=by omega
   clear d1 hq;go_wp2_with fail
   go_roundg (n - (k+1))
   case measure=>omega
   case rel=>exact⟨k+1,by omega,by simp,HM2⟩
  ·obtain rfl:k=n:=by omega
   go_wp2_with fail
   go_ret;refine⟨_,rfl,?_,HM.out.below⟩;rw[TA.out];have e:=HML.out (part.take k);refine⟨some ⟨w.heap.size,0,none⟩,N,by rw[e];rfl,fun j hj=>⟨_,0,rfl,?_⟩⟩;rw[Nat.zero_add];exact HM.out.cell hj
theorem WH{g:Gr}{en:List (List Bool)}{mode:Int}{inl:List Bool}{a k:Nat}(hk:k<(Av g).length)(h:∀j,j<k→Mo inl a ((Av g).getD j (0,0,0))=false)(hp:Mo inl a ((Av g).getD k (0,0,0))=true):
 BU g en mode inl a=(((Av g).getD k (0,0,0)).1,((Av g).getD k (0,0,0)).2.2):=by
 unfold BU;rw[Td hk h hp]
theorem TE{g:Gr}{en:List (List Bool)}{inl:List Bool}{a k:Nat}(h:∀j,j<(Av g).length→Mo inl a ((Av g).getD j (0,0,0))=false)(hk:k<en.length)(hj:∀j,j<k→JL en inl a j=false)(hp:JL en inl a k=true):
 BU g en 1 inl a=((k:Int),-1):=by
 unfold BU;rw[QP (d:=(0,0,0)) h];simp only[if_pos,Nq hk hj hp]
theorem WP{g:Gr}{en:List (List Bool)}{inl:List Bool}{a:Nat}(h:∀j,j<(Av g).length→Mo inl a ((Av g).getD j (0,0,0))=false)(hj:∀j,j<en.length→JL en inl a j=false):BU g en 1 inl a=(-1,-1):=by
 unfold BU;rw[QP (d:=(0,0,0)) h];simp only[if_pos,Mb hj]
theorem Rj{g:Gr}{en:List (List Bool)}{mode:Int}{inl:List Bool}{a:Nat}(h:∀j,j<(Av g).length→Mo inl a ((Av g).getD j (0,0,0))=false)(hm:mode≠1):BU g en mode inl a=(-1,-1):=by
 unfold BU;rw[QP (d:=(0,0,0)) h];simp only[if_neg hm]
theorem Qy{l:List Ed}{k:Nat}(h:k<l.length):l.getD k (0,0,0)∈l:=by
 rw[AM,Bf h];simp
theorem aL (v u mv:Value) (g:Gr) (en:List (List Bool)) (mode:Int) (inl:List Bool) (a A:Nat) (w:World) (h:Ao w v g) (hu:AO w u en) (hm:Bc w mv inl)
 (hE:∀e∈Av g,0≤e.1∧e.1<(inl.length:Int)∧0≤e.2.2∧e.2.2<(inl.length:Int)) (hlen:inl.length=en.length) (hrows:∀i,i<en.length→(en.getD i []).length=A) (ha:a<A) (hel:en.length≤100000) (hal:(Av g).length≤1000000):
 Calls Tryz.prog 49 #[v,u,.int .i64 mode,mv,.int .i64 (a:Nat)] w fun e w'=>e=.returned (.tuple #[.int .i64 (BU g en mode inl a).1,.int .i64 (BU g en mode inl a).2])∧Below w.heap.size w w':=by
 obtain⟨sa,aa,ta,sc,ac,tc,rfl,-⟩:=h.var;have hb:=Ae w (.cells #[.slice sa g.S.length sc,.slice aa g.A.length ac,.slice ta g.T.length tc] 32);have HB:=Aa hb;have X0:=Aa (Ar w (.cells #[.slice sa g.S.length sc,.slice aa g.A.length ac,.slice ta g.T.length tc] 32));have HAL:=Aa (fun(w':World) (hb:Below w.heap.size w w')=>Kl _ g w' (h.below hb));obtain⟨ua,uc,rfl,hrow⟩:=hu;obtain⟨ma,mc,rfl,hmc⟩:=hm;have HRW:=Aa hrow;have HMC:=Aa hmc;have HRL:=Aa hrows;have GH:=Aa (fun k (hk:k<(Av g).length) hj hp=>WH (g:=g) (en:=en) (mode:=mode) (inl:=inl) (a:=a) hk hj hp);have GI:=Aa (fun hh (hmo:mode=1) k (hk:k<en.length) hj hp=>(by rw[hmo];exact TE (g:=g) (en:=en) (inl:=inl) (a:=a) (k:=k) hh hk hj hp:BU g en mode inl a=((k:Int),-1)));have GE:=Aa (fun hh (hmo:mode=1) hj=>(by rw[hmo];exact WP (g:=g) (en:=en) (inl:=inl) (a:=a) hh hj:BU g en mode inl a=(-1,-1)));have GO:=Aa (fun hh (hmo:mode≠1)=>Rj (g:=g) (en:=en) (mode:=mode) (inl:=inl) (a:=a) hh hmo);have EI:=Aa (fun k (hk:k<(Av g).length)=>hE _ (Qy hk));have HIT:Hid (∀e:Ed,Mo inl a e=(decide (e.2.1=(a:Int))&&(inl.getD e.1.toNat false&&inl.getD e.2.2.toNat false))):=Aa (fun e=>rfl);have IDL:Hid (∀i,JL en inl a i=(inl.getD i false&&!(en.getD i []).getD a false)):=Aa (fun i=>rfl);clear h hb hrow hmc hrows hE;generalize BU g en mode inl a=RES at*;generalize Mo inl a=HI at*;generalize JL en inl a=ID at*;generalize Av g=el at*;rw[hlen]at HMC EI ⊢;obtain⟨n,hn⟩:∃n,en.length=n:=⟨_,rfl⟩;rw[hn]at HRW HRL GI GE HMC EI hel ⊢;clear hn hlen;go_enter Tryz.func49,Tryz.ntmps49;go_wp2_with (go_at_call 70;refine(HAL.out _ HB.out).mono ?_;rintro e w1 ⟨rv,rfl,hE,hb1⟩;obtain⟨ea,ec,rfl,hE⟩:=hE;have HED:=Aa hE;have HB1:=Aa (HB.out.trans (hb1.mono HB.out.size));clear hE hb1)
 go_loopg [13] el.length (fun fu c wr=>∃k:Nat,k+fu=el.length∧c=.int .i64 k∧Hid (∀j,j<k→HI (el.getD j (0,0,0))=false)∧Hid (Below w1.heap.size w1 wr))
 case atStart=>exact⟨0,by omega,rfl,Aa (fun j hj=>by omega),Aa (Ak _ _)⟩
 case round=>
  obtain⟨k,hk,rfl,HK,HBR⟩:=hrel;by_cases hlt:k<el.length
  ·obtain⟨b1,o1,rfl,d1,d2,d3⟩:=HED.out k hlt;obtain⟨y1,y2,y3⟩:=JN HBR.out d1 d2 d3;have z1:(k:Int)<(el.length:Int):=by omega
   have hin:=EI.out k hlt;have HH:=Aa (fun hp=>GH.out k hlt HK.out hp);have HN2:Hid (HI (el.getD k (0,0,0))=false→∀j,j<k+1→HI (el.getD j (0,0,0))=false):=Aa (fun hne j hj=>by
    by_cases e:j=k
    ·rw[e];exact hne
    ·exact HK.out j (by omega))
   have HT:=Aa (HIT.out (el.getD k (0,0,0)));have HBW:=Aa (HB1.out.trans (HBR.out.mono HB1.out.size));clear d1 d2 d3;generalize el.getD k (0,0,0)=ed at*;obtain⟨ex,ey,ez⟩:=ed;simp only at hin y1 y2 y3 HH HT;obtain⟨p,rfl⟩:∃q:Nat,ex=(q:Int):=⟨ex.toNat,by omega⟩;obtain⟨r,rfl⟩:∃q:Nat,ez=(q:Int):=⟨ez.toNat,by omega⟩;simp only[BT]at HT;have z2:(p:Int)<(n:Int):=by omega
   have z3:(r:Int)<(n:Int):=by omega
   obtain⟨b2,o2,rfl,m1⟩:=HMC.out p (by omega);obtain⟨b3,o3,e3,m2⟩:=HMC.out r (by omega);cases e3;have q1:=Af HBW.out m1;have q2:=Af HBW.out m2;clear m1 m2 hin;by_cases hy:ey=(a:Int)
   ·subst hy;have hyy:((a:Int)==(a:Int))=true:=by simp
    rw[Ck rfl,Bool.true_and]at HT;cases h1:inl.getD p false
    ·rw[h1]at HT q1;have E:=Aa (HN2.out (by rw[HT.out];rfl));clear h1 q2;go_wp2_with fail
     go_roundg (el.length - (k+1))
     case measure=>omega
     case rel=>exact⟨k+1,by omega,by simp,E,HBR⟩
    ·rw[h1,Bool.true_and]at HT;rw[h1]at q1;cases h2:inl.getD r false
     ·rw[h2]at HT q2;have E:=Aa (HN2.out HT.out);clear h1 h2;go_wp2_with fail
      go_roundg (el.length - (k+1))
      case measure=>omega
      case rel=>exact⟨k+1,by omega,by simp,E,HBR⟩
     ·rw[h2]at HT q2;have E:=Aa (HH.out HT.out);clear h1 h2;go_wp2_with fail
      (refine AI (by kernel_rfl) (by kernel_rfl) ?_;(repeat still_step);refine wpStill_nil ?_)
      go_wp2_with fail
      refine Bd (v:=.tuple #[.int .i64 (p:Nat),.int .i64 (r:Nat)]) (by simp[results,Tryz.results49,go_sem]) rfl ?_;exact⟨by rw[E.out],by first | exact HBW.out.drew | exact HBW.out⟩
   ·have hyy:(ey==(a:Int))=false:=Bh hy;rw[Cj hy,Bool.false_and]at HT;have E:=Aa (HN2.out HT.out);clear q1 q2;go_wp2_with fail
    go_roundg (el.length - (k+1))
    case measure=>omega
    case rel=>exact⟨k+1,by omega,by simp,E,HBR⟩
  ·obtain rfl:k=el.length:=by omega
   have GO2:=Aa (fun hmo=>GO.out HK.out hmo);have GI2:=Aa (fun hmo k hk hj hp=>GI.out HK.out hmo k hk hj hp);have GE2:=Aa (fun hmo hj=>GE.out HK.out hmo hj);have HBW:=Aa (HB1.out.trans (HBR.out.mono HB1.out.size));clear GH GO GI GE;go_wp2_with fail
   clear HBR HK;go_loopg [14] n (fun fu c wr=>∃k:Nat,k+fu=n∧c=.int .i64 k∧Hid (∀j,j<k→ID j=false)∧Hid (Below w.heap.size w wr)∧(0<k→mode=1))
   case atStart=>exact⟨0,by omega,rfl,Aa (fun j hj=>by omega),HBW,fun q=>by omega⟩
   case round=>
    clear HBW;obtain⟨k,hk,rfl,HK,HBW,hmo⟩:=hrel;by_cases hmo1:mode=1
    ·subst hmo1;by_cases hlt:k<n
     ·have z1:(k:Int)<(n:Int):=by omega
      obtain⟨b2,o2,rfl,m1⟩:=HMC.out k hlt;obtain⟨b4,o4,uu,rfl,c1,r1⟩:=HRW.out k hlt;obtain⟨ra,rc,rfl,hrb⟩:=r1;have hrl:=HRL.out k hlt;rw[hrl]at c1 hrb;obtain⟨b5,o5,rfl,m5⟩:=hrb a ha;obtain⟨q1,q2,q3⟩:=JN HBW.out m1 c1 m5;have z2:(a:Int)<(A:Int):=by omega
      have HN2:Hid (ID k=false→∀j,j<k+1→ID j=false):=Aa (fun hne j hj=>by
       by_cases e:j=k
       ·rw[e];exact hne
       ·exact HK.out j (by omega))
      have HT:=Aa (IDL.out k);have HG:=Aa (fun hp=>GI2.out rfl k hlt HK.out hp);clear m1 c1 m5 hrb hrl;cases h1:inl.getD k false
      ·rw[h1]at HT q1;have E:=Aa (HN2.out (by rw[HT.out];rfl));clear h1 q2 q3;go_wp2_with fail
       go_roundg (n - (k+1))
       case measure=>omega
       case rel=>exact⟨k+1,by omega,by simp,E,HBW,fun _=>(by first | trivial | rfl)⟩
      ·rw[h1,Bool.true_and]at HT;rw[h1]at q1;cases h2:(en.getD k []).getD a false
       ·rw[h2]at HT q3;have E:=Aa (HG.out (by rw[HT.out];rfl));clear h1 h2;go_wp2_with fail
        refine Bd (v:=.tuple #[.int .i64 (k:Nat),.int .i64 (-1)]) (by simp[results,Tryz.results49,go_sem]) rfl ?_;exact⟨by rw[E.out],HBW.out⟩
       ·rw[h2]at HT q3;have E:=Aa (HN2.out (by rw[HT.out];rfl));clear h1 h2;go_wp2_with fail
        go_roundg (n - (k+1))
        case measure=>omega
        case rel=>exact⟨k+1,by omega,by simp,E,HBW,fun _=>(by first | trivial | rfl)⟩
     ·obtain rfl:k=n:=by omega
      have E:=Aa (GE2.out rfl HK.out);have z1:¬(k:Int)<(k:Int):=by omega
      go_wp2_with fail
      refine Bd (v:=.tuple #[.int .i64 (-1),.int .i64 (-1)]) (by simp[results,Tryz.results49,go_sem]) rfl ?_;exact⟨by rw[E.out],HBW.out⟩
    ·have E:=Aa (GO2.out hmo1);obtain rfl:k=0:=by
      rcases Nat.eq_zero_or_pos k with q | q
      ·exact q
      ·exact absurd (hmo q) hmo1
     have hm1:(mode==1)=false:=Bh hmo1;clear hmo HMC HRW;by_cases hn0:(0:Int)<(n:Int)
     ·go_wp2_with fail
      refine Bd (v:=.tuple #[.int .i64 (-1),.int .i64 (-1)]) (by simp[results,Tryz.results49,go_sem]) rfl ?_;exact⟨by rw[E.out],HBW.out⟩
     ·go_wp2_with fail
      refine Bd (v:=.tuple #[.int .i64 (-1),.int .i64 (-1)]) (by simp[results,Tryz.results49,go_sem]) rfl ?_;exact⟨by rw[E.out],HBW.out⟩
end Go.Proofs.YtlhpjfnfemebdaaGreat
