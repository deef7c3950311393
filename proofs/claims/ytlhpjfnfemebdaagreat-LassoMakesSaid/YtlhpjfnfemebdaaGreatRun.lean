/-
  scc's search.run.
-/
import Derived.Test.YtlhpjfnfemebdaaGreatJRunMem
set_option maxRecDepth 100000
set_option maxHeartbeats 64000000
set_option linter.unusedSimpArgs false
namespace Go.Proofs.YtlhpjfnfemebdaaGreat
open Go.RowKit
def RF(p r s:Value)(t:Nat→Value):Act:={tmps:=#[p,r,s,t 3,t 4,t 5,t 6,t 7,t 8,t 9,t 10,t 11,t 12,t 13,t 14,t 15,t 16,t 17,t 18,t 19,t 20,t 21,t 22,t 23,t 24,t 25,t 26,t 27,t 28,t 29,t 30,t 31,t 32,t 33,t 34,t 35,t 36,t 37,t 38,t 39,t 40,t 41,t 42,t 43,t 44,t 45,t 46,t 47,t 48,t 49,t 50,t 51,t 52,t 53,t 54,t 55,t 56,t 57,t 58,t 59,t 60,t 61,t 62,t 63,t 64,t 65,t 66,t 67,t 68,t 69,t 70,t 71,t 72,t 73,t 74,t 75,t 76,t 77,t 78,t 79,t 80,t 81,t 82,t 83,t 84,t 85,t 86,t 87,t 88,t 89,t 90,t 91,t 92,t 93,t 94,t 95,t 96,t 97,t 98,t 99,t 100,t 101,t 102,t 103,t 104,t 105,t 106,t 107,t 108,t 109,t 110,t 111,t 112,t 113,t 114,t 115,t 116,t 117,t 118,t 119,t 120,t 121,t 122,t 123,t 124,t 125,t 126,t 127,t 128,t 129,t 130,t 131,t 132,t 133,t 134,t 135,t 136,t 137,t 138,t 139,t 140,t 141,t 142,t 143,t 144,t 145,t 146,t 147,t 148,t 149,t 150,t 151,t 152,t 153,t 154,t 155,t 156,t 157,t 158,t 159,t 160,t 161,t 162,t 163,t 164,t 165,t 166,t 167,t 168,t 169,t 170,t 171,t 172,t 173,t 174,t 175,t 176,t 177,t 178],defers:=[]}
def JD(w wr:World)(gS gA gT:Value)(sb bn bl bo bp base n:Nat)(s:TS)(nv cv:Value):Prop:=Ex w wr gS gA gT sb bn bl bo bp base n s.num s.low s.on s.nodes s.part s.parts s.calls nv cv
structure dZ(w:World)(G:TG)(sa ta:Option Addr)(sl tl:Nat):Prop where
 nle:G.n≤100000
 slen:sl=G.n+1
 tlen:tl≤1000000
 top:∀x,x≤G.n→G.S x≤tl
 S:∀x,x≤G.n→∃b off,sa=some ⟨b,off,none⟩∧w.cell? ⟨b,off+x,none⟩=some (.int .i64 (G.S x:Nat))
 T:∀k,k<tl→∃b off,ta=some ⟨b,off,none⟩∧w.cell? ⟨b,off+k,none⟩=some (.int .i64 (G.T k:Nat))
def fZ(w:World)(G:TG)(gS gA gT:Value)(sb bn bl bo bp base root:Nat)(num0:Nat→Int)(m:Nat)(a:Act)(wr:World):Prop:=
 ∃(s:TS) (nv cv:Value) (i nx:Nat) (rest:List (Nat×Nat)),m=2*Db G.n s.num+s.calls.length∧
  a=RF (.pointer (some ⟨sb,0,none⟩)) (.int .i64 (root:Nat)) (.int .i64 (s.seen:Nat)) (fun k=>a.tmps.getD k undef)∧
  Hid (s.calls=(i,nx)::rest)∧Hid (AX G num0 s)∧0≤s.num root∧Hid (JD w wr gS gA gT sb bn bl bo bp base G.n s nv cv)
theorem dH {w wr:World} {G:TG} {gA:Value} {sa ta:Option Addr} {sl sc tl tc sb bn bl bo bp base root:Nat} {s:TS} {nv cv:Value} {num0:Nat→Int} (hC:dZ w G sa ta sl tl)
 (h:JD w wr (.slice sa sl sc) gA (.slice ta tl tc) sb bn bl bo bp base G.n s nv cv) (hI:AX G num0 s) (hc:s.calls=[]) (hr:root<G.n) (hu:s.num root=-1):
 Calls Tryz.prog 112 #[.pointer (some ⟨sb,0,none⟩),.int .i64 (root:Nat),.int .i64 (s.seen:Nat)] wr fun e w'=>∃(s':TS) (nv' cv':Value),e=.returned (.int .i64 (s'.seen:Nat))∧
  AX G num0 s'∧s'.calls=[]∧0≤s'.num root∧JD w w' (.slice sa sl sc) gA (.slice ta tl tc) sb bn bl bo bp base G.n s' nv' cv':=by
 have hl:=hI.lens;have hn:=hC.nle;have HC:=Aa hC;obtain⟨bS,oS,rfl,-⟩:=hC.S 0 (by omega);have HSC:Hid (∀x,x≤G.n→w.cell? ⟨bS,oS+x,none⟩=some (.int .i64 (G.S x:Nat))):=Aa (fun x hx=>by
  obtain⟨b,off,e,hc⟩:=hC.S x hx;simp only[Option.some.injEq,Addr.mk.injEq,and_true]at e;obtain⟨rfl,rfl⟩:=e;exact hc)
 have HI:=Aa hI;have SEE:=Aa (XG h root s.seen (G.S root) hr (by omega) (by rw[hC.slen];omega) (hC.S root (by omega)) (by omega) (by omega) (by omega));have ST:=Aa (hI.start hc hu hr);have hcl:=Aa hc;clear h hI hc;go_enter Tryz.func112,Tryz.ntmps112;go_wp2_with fail
 refine Nc 0 (fZ w G (.slice (some ⟨bS,oS,none⟩) sl sc) gA (.slice ta tl tc) sb bn bl bo bp base root num0) rfl ?_ ?_
 ·clear SEE ST hcl HI hl hu;rintro m a wr ⟨s,nv,cv,i,nx,rest,hm,ha,hcs,hI,hrt,hS⟩;obtain⟨t,rfl⟩:∃t,a=RF _ _ _ t:=⟨_,ha⟩;clear ha;have hS0:=hS.out;unfold JD at hS0;rw[hcs.out]at hS0;obtain⟨g,cap,rfl,tc1,tc2,tc3,tc4,tc5,-,-⟩:=hS0.topCall;have c9:=hS0.cell 9 _ rfl;have hln:=hI.out.lens;have hk1:rest.length+1≤G.n:=by have:=hln.2.1;rw[hcs.out]at this;simpa using this
  unfold maxLen at tc2;obtain⟨k,hk⟩:∃k,rest.length=k:=⟨_,rfl⟩;rw[hk]at tc1 tc3 tc4 c9 hk1;have hk2:k≤1000000:=by omega
  have hkw:IntKind.i64.wrap (k:Int)=(k:Int):=DS _ (by omega);have hkl:(k:Int)<(k:Int)+1:=by omega
  have HK:=Aa hk;rw[hk]at hS;clear hS0 hk;unfold RF;go_wp2_with fail
  (refine AI (by kernel_rfl) (by kernel_rfl) ?_;(repeat still_step);refine wpStill_nil ?_)
  go_wp2_with fail
  clear c9 tc3 tc4 tc5;go_loopg [2,9] (G.S (i+1) - nx) (fun fu v2 _ wr=>∃(s2:TS) (nv2:Value) (nx2:Nat),fu=G.S (i+1) - nx2∧v2=.int .i64 (s2.seen:Nat)∧m=2*Db G.n s2.num+s2.calls.length∧Hid (s2.calls=(i,nx2)::rest)∧Hid (AX G num0 s2)∧0≤s2.num root∧Hid (JD w wr (.slice (some ⟨bS,oS,none⟩) sl sc) gA (.slice ta tl tc) sb bn bl bo bp base G.n s2 nv2 (.slice (some ⟨g,0,none⟩) (k+1) cap)))
  case atStart=>exact⟨s,nv,nx,rfl,rfl,hm,hcs,hI,hrt,Aa hS.out.drew⟩
  case round=>
   clear hm hcs hI hrt hS hln;obtain⟨s2,nv2,nx2,hfu,rfl,hm,hcs,hI,hrt,hS⟩:=hrel;have hS0:=hS.out;unfold JD at hS0;rw[hcs.out]at hS0;have hln:=hI.out.lens;obtain⟨t1,t2,t3,t4,t5⟩:=hI.out.top hcs.out;obtain⟨g',cap',he,-,-,-,tc4,tc5,tN,tP⟩:=hS0.topCall;simp only[Value.slice.injEq,Option.some.injEq,Addr.mk.injEq,and_true]at he;obtain⟨rfl,-,rfl⟩:=he;rw[HK.out]at tc4 tN tP;have tcf:=tc5 (k*2+1);have c0:=hS0.cell 0 _ rfl;have c2:=hS0.cell 2 _ rfl;have c1:=hS0.cell 3 _ rfl;have c3:=hS0.cell 5 _ rfl;have c4:=hS0.cell 4 _ rfl;have s1:=Af hS0.below (HSC.out (i+1) (by omega));have TN:=Aa tN;have TP:=Aa tP;have HS0:=Aa hS0;have i1:(i:Int)+1<(sl:Int):=by rw[hC.slen];omega
   have i2:IntKind.i64.wrap ((i:Int)+1)=((i+1:Nat):Int):=by rw[DS _ (by omega)];simp
   have i3:(0:Int)≤(i:Int)+1:=by omega
   have i4:((i:Int)+1).toNat=i+1:=by omega
   clear hS0 tc5 tN tP;by_cases hlt:nx2<G.S (i+1)
   ·have hl2:(nx2:Int)<(G.S (i+1):Int):=by omega
    go_wp2_with fail
    (refine AI (by kernel_rfl) (by kernel_rfl) ?_;(repeat still_step);refine wpStill_nil ?_)
    go_wp2_with fail
    obtain⟨hE,hy⟩:=hI.out.edge hcs.out hlt;have hT1:=HC.out.top (i+1) (by omega);have hT2:=HC.out.tlen;obtain⟨bT,oT,eT,hTc⟩:=HC.out.T nx2 (by omega);rw[eT]at c2;have st:=Af HS0.out.below hTc;have i5:(nx2:Int)<(tl:Int):=by omega
    have hN:=TN.out (nx2+1);rw[show((nx2+1:Nat):Int)=(nx2:Int)+1 by omega]at hN;obtain⟨y,hyy⟩:∃y,G.T nx2=y:=⟨_,rfl⟩;rw[hyy]at hy st;have d1:=hN.cell 3 _ rfl;have d3:=hN.cell 5 _ rfl;have n0:=Ab hN.hn y _ (Bw _ y (by rw[AJ];exact hy));rw[BW _ _ _ _ hy]at n0;have o0:=Ab hN.ho y _ (Co _ y (by rw[AJ];exact hy));rw[BW _ _ _ _ hy]at o0;have i6:(y:Int)<(G.n:Int):=by omega
    have i7:IntKind.i64.wrap ((nx2:Int)+1)=(nx2:Int)+1:=DS _ (by omega);have HN:=Aa hN;have HY:=Aa hyy;clear hN hyy eT hTc hE;by_cases hu:s2.num y=-1
    ·have SEE:Hid (∀wx,Ex w wx (.slice (some ⟨bS,oS,none⟩) sl sc) gA (.slice ta tl tc) sb bn bl bo bp base G.n s2.num s2.low s2.on s2.nodes s2.part s2.parts ((i,nx2+1)::rest) nv2 (.slice (some ⟨g,0,none⟩) (k+1) cap)→_):=Aa (fun wx hx=>XG hx y s2.seen (G.S y) hy (by omega) (by rw[hC.slen];omega) ⟨bS,oS,rfl,HSC.out y (by omega)⟩ (by omega) (by have e:=HK.out;simp[e];omega) (by omega));have ST:=Aa (hI.out.stepSee hcs.out hlt (by rw[HY.out];exact hu));rw[HY.out]at ST
     (refine AI (by kernel_rfl) (by kernel_rfl) ?_;(repeat still_step);refine wpStill_nil ?_)
     go_wp2_with (first | (go_at_call 117;refine(SEE.out _ (by first | exact HN.out | exact HN.out.drew | exact HN.out.drew.drew)).mono ?_;rintro e w1 ⟨rfl,nv1,cv1,hM1⟩))
     go_step3
     obtain⟨ST1,ST2⟩:=ST.out;refine⟨rfl,_,?_,⟨_,nv1,cv1,y,G.S y,(i,nx2+1)::rest,rfl,by kernel_rfl,Aa rfl,Aa ST1,?_,Aa hM1⟩⟩
     ·have e:=hcs.out;show 2*Db G.n (Bx s2.num y s2.seen)+(rest.length+1+1)<m;rw[hm,e];simp;omega
     ·show 0≤Bx s2.num y _ root;by_cases e:root=y
      ·rw[e,AS];omega
      ·rw[AE _ _ _ _ e];exact hrt
    ·have hcl:s2.calls.length=rest.length+1:=by rw[hcs.out];rfl
     by_cases ho:s2.on y=true
     ·have l4:=HN.out.cell 4 _ rfl;have l0:=Ab HN.out.hl i _ (Bw _ i (by rw[AJ];exact t1));rw[BW _ _ _ _ t1]at l0;have lf:=Ag HN.out.hl i;have ST:=Aa (hI.out.stepLow hcs.out hlt (by rw[HY.out];exact ho));rw[HY.out]at ST;have i8:(i:Int)<(G.n:Int):=by omega
      by_cases hmn:s2.num y<s2.low i
      ·have em:min (s2.low i) (s2.num y)=s2.num y:=by omega
       rw[em]at ST;have HL:=Aa (HN.out.setLow i (s2.num y))
       (refine AI (by kernel_rfl) (by kernel_rfl) ?_;(repeat still_step);refine wpStill_nil ?_)
       go_wp2_with fail
       refine Bo 21 (by kernel_rfl) (by kernel_rfl) ?_;simp only[List.take_succ_cons,List.take_zero,List.drop_succ_cons,List.drop_zero];repeat still_step
       refine wpStill_nil ?_;go_wp2_with fail
       go_roundg (G.S (i+1) - (nx2+1))
       case measure=>omega
       case rel=>exact⟨{s2 with low:=Bx s2.low i (s2.num y),calls:=(i,nx2+1)::rest},nv2,nx2+1,rfl,rfl,by rw[hm,hcl];try rfl,Aa rfl,Aa ST.out,hrt,Aa (by first | exact HL.out.drew | exact HL.out.drew.drew | exact HL.out.drew.drew.drew | exact HL.out)⟩
      ·have em:min (s2.low i) (s2.num y)=s2.low i:=by omega
       rw[em]at ST;have HL:=Aa (HN.out.setLow i (s2.low i))
       (refine AI (by kernel_rfl) (by kernel_rfl) ?_;(repeat still_step);refine wpStill_nil ?_)
       go_wp2_with fail
       refine Bo 21 (by kernel_rfl) (by kernel_rfl) ?_;simp only[List.take_succ_cons,List.take_zero,List.drop_succ_cons,List.drop_zero];repeat still_step
       refine wpStill_nil ?_;go_wp2_with fail
       go_roundg (G.S (i+1) - (nx2+1))
       case measure=>omega
       case rel=>exact⟨{s2 with low:=Bx s2.low i (s2.low i),calls:=(i,nx2+1)::rest},nv2,nx2+1,rfl,rfl,by rw[hm,hcl];try rfl,Aa rfl,Aa ST.out,hrt,Aa (by first | exact HL.out.drew | exact HL.out.drew.drew | exact HL.out.drew.drew.drew | exact HL.out)⟩
     ·have ho2:s2.on y=false:=by simpa using ho
      have ST:=Aa (hI.out.stepSkip hcs.out hlt (by rw[HY.out];exact hu) (by rw[HY.out];exact ho2))
      (refine AI (by kernel_rfl) (by kernel_rfl) ?_;(repeat still_step);refine wpStill_nil ?_)
      go_wp2_with fail
      go_roundg (G.S (i+1) - (nx2+1))
      case measure=>omega
      case rel=>exact⟨{s2 with calls:=(i,nx2+1)::rest},nv2,nx2+1,rfl,rfl,by rw[hm,hcl];try rfl,Aa rfl,Aa ST.out,hrt,Aa (by first | exact HN.out.drew | exact HN.out.drew.drew | exact HN.out)⟩
   ·have hl2:¬(nx2:Int)<(G.S (i+1):Int):=by omega
    obtain rfl:nx2=G.S (i+1):=by omega
    have n0:=Ab HS0.out.hn i _ (Bw _ i (by rw[AJ];exact t1));rw[BW _ _ _ _ t1]at n0;have l0:=Ab HS0.out.hl i _ (Bw _ i (by rw[AJ];exact t1));rw[BW _ _ _ _ t1]at l0;have i8:(i:Int)<(G.n:Int):=by omega
    have j1:k<cap:=by omega
    have j2:k≤cap:=by omega
    rcases rest with _ | ⟨⟨u,nu⟩,rest⟩
    ·have HK0:Hid (k=0):=Aa (by have:=HK.out;simpa using this.symm);have hl0:=hI.out.last hcs.out;obtain⟨pre,suf,hnod,hpre⟩:=hI.out.split hcs.out;have ST:=Aa (hI.out.stepClose hcs.out rfl hl0 hnod);have CL:Hid (∀wx,Ex w wx (.slice (some ⟨bS,oS,none⟩) sl sc) gA (.slice ta tl tc) sb bn bl bo bp base G.n s2.num s2.low s2.on s2.nodes s2.part s2.parts [(i,G.S (i+1))] nv2 (.slice (some ⟨g,0,none⟩) (k+1) cap)→_):=Aa (fun wx hx=>Sw (by rw[hnod]at hx;exact hx) (by rw[← hnod];exact hI.out.nodesLt) hpre (by rw[← hnod];omega) (by omega));have j3:¬(0:Int)<(k:Int):=by have:=HK0.out;omega
     go_wp2_with fail
     (refine AI (by kernel_rfl) (by kernel_rfl) ?_;(repeat still_step);refine wpStill_nil ?_)
     go_wp2_with fail
     (refine AI (by kernel_rfl) (by kernel_rfl) ?_;(repeat still_step);refine wpStill_nil ?_)
     go_wp2_with (first | (go_at_call 118;refine(CL.out _ (by first | exact HS0.out | exact HS0.out.drew | exact HS0.out.drew.drew)).mono ?_;rintro e w1 ⟨rfl,nv1,hM1⟩))
     have b9:=hM1.cell 9 _ rfl;have f9:=hM1.free 9;obtain⟨g',cap',he,-,-,-,-,-,-,hP⟩:=hM1.topCall;simp only[Value.slice.injEq,Option.some.injEq,Addr.mk.injEq,and_true]at he;obtain⟨rfl,-,rfl⟩:=he;have hk0:([]:List (Nat×Nat)).length=k:=HK0.out.symm;rw[hk0]at hP;have p9:=hP.cell 9 _ rfl;have HP:=Aa hP;clear hP hM1;refine Bo 14 (by kernel_rfl) (by kernel_rfl) ?_;simp only[List.take_succ_cons,List.take_zero,List.drop_succ_cons,List.drop_zero];repeat still_step
     refine wpStill_nil ?_;go_wp2_with fail
     simp only[Exit.jump];go_ret;exact⟨{s2 with on:=JO s2.on (pre++[i]),nodes:=suf,part:=Gj s2.part s2.parts (pre++[i]),parts:=s2.parts+1,calls:=[]},nv1,_,rfl,ST.out,rfl,hrt,HP.out.drew⟩
    ·obtain⟨q,hq⟩:∃q,rest.length=q:=⟨_,rfl⟩;have HQ:=Aa hq;have HKQ:Hid (k=q+1):=Aa (by have:=HK.out;rw[List.length_cons,hq]at this;exact this.symm);clear hq;have j3:(0:Int)<(k:Int):=by have:=HKQ.out;omega
     have j4:IntKind.i64.wrap ((k:Int) - 1)=(q:Int):=by rw[DS _ (by omega)];have:=HKQ.out;omega
     have j5:(q:Int)<(k:Int):=by have:=HKQ.out;omega
     have HUU:u<G.n∧0≤s2.num u:=by
      have ho:=hI.out.inv.callsOn (u,nu) (by rw[hcs.out];simp);have h0:=hI.out.inv.onSeen _ ho;exact⟨(hI.out.inv.seenOf h0).2,h0⟩
     have j6:(u:Int)<(G.n:Int):=by omega
     by_cases hl0:s2.low i=s2.num i
     ·obtain⟨pre,suf,hnod,hpre⟩:=hI.out.split hcs.out;have ST:=Aa (hI.out.stepClose hcs.out rfl hl0 hnod);have CL:Hid (∀wx,Ex w wx (.slice (some ⟨bS,oS,none⟩) sl sc) gA (.slice ta tl tc) sb bn bl bo bp base G.n s2.num s2.low s2.on s2.nodes s2.part s2.parts ((i,G.S (i+1))::(u,nu)::rest) nv2 (.slice (some ⟨g,0,none⟩) (k+1) cap)→_):=Aa (fun wx hx=>Sw (by rw[hnod]at hx;exact hx) (by rw[← hnod];exact hI.out.nodesLt) hpre (by rw[← hnod];omega) (by omega));have hup:=hI.out.closeUp hcs.out hl0;have hmn:¬s2.low i<s2.low u:=fun hlt=>by
       have e:=congrFun hup u;rw[AS]at e;omega
      have HL0:=Aa hl0;have HS1:Hid (Bx s2.low u (s2.low u)=s2.low):=Aa (by
       have:min (s2.low u) (s2.low i)=s2.low u:=by omega
       rw[this]at hup;exact hup)
      clear hup;go_wp2_with fail
      (refine AI (by kernel_rfl) (by kernel_rfl) ?_;(repeat still_step);refine wpStill_nil ?_)
      go_wp2_with fail
      (refine AI (by kernel_rfl) (by kernel_rfl) ?_;(repeat still_step);refine wpStill_nil ?_)
      go_wp2_with (first | (go_at_call 118;refine(CL.out _ (by first | exact HS0.out | exact HS0.out.drew | exact HS0.out.drew.drew)).mono ?_;rintro e w1 ⟨rfl,nv1,hM1⟩))
      have b9:=hM1.cell 9 _ rfl;have f9:=hM1.free 9;obtain⟨g',cap',he,-,-,-,-,-,-,hP⟩:=hM1.topCall;simp only[Value.slice.injEq,Option.some.injEq,Addr.mk.injEq,and_true]at he;obtain⟨rfl,-,rfl⟩:=he;rw[List.length_cons,HQ.out,← HKQ.out]at hP;have HPP:=hP;have c5:=HPP.cell 9 _ rfl;have d4:=HPP.cell 4 _ rfl;obtain⟨hun,hu0⟩:=HUU;have u0:=Ab HPP.hl u _ (Bw _ u (by rw[AJ];exact hun));rw[BW _ _ _ _ hun]at u0;have v0:=Ab HPP.hl i _ (Bw _ i (by rw[AJ];exact t1));rw[BW _ _ _ _ t1]at v0;have uf:=Ag HPP.hl u;obtain⟨g',cap',he,-,-,ua,-,-,-,-⟩:=HPP.topCall;simp only[Value.slice.injEq,Option.some.injEq,Addr.mk.injEq,and_true]at he;obtain⟨rfl,-,rfl⟩:=he;rw[HQ.out]at ua;have HP:=Aa (by have:=hP.setLow u (s2.low u);rw[HS1.out]at this;exact this);clear hP hM1 HPP;refine Bo 14 (by kernel_rfl) (by kernel_rfl) ?_;simp only[List.take_succ_cons,List.take_zero,List.drop_succ_cons,List.drop_zero];repeat still_step
      refine wpStill_nil ?_;go_wp2_with fail
      refine Bo 21 (by kernel_rfl) (by kernel_rfl) ?_;simp only[List.take_succ_cons,List.take_zero,List.drop_succ_cons,List.drop_zero];repeat still_step
      refine wpStill_nil ?_;go_wp2_with fail
      go_step3
      refine⟨rfl,_,?_,⟨{s2 with on:=JO s2.on (pre++[i]),nodes:=suf,part:=Gj s2.part s2.parts (pre++[i]),parts:=s2.parts+1,calls:=(u,nu)::rest},nv1,_,u,nu,rest,rfl,by kernel_rfl,Aa rfl,Aa ST.out,hrt,Aa (by first | exact HP.out | exact HP.out.drew | exact HP.out.drew.drew | exact HP.out.drew.drew.drew | exact HP.out.drew.drew.drew.drew)⟩⟩;have e:=hcs.out;show 2*Db G.n s2.num+(rest.length+1)<m;rw[hm,e];simp
     ·have ST:=Aa (hI.out.stepPop hcs.out rfl hl0);obtain⟨g',cap',he,-,-,-,-,-,-,hP⟩:=HS0.out.topCall;simp only[Value.slice.injEq,Option.some.injEq,Addr.mk.injEq,and_true]at he;obtain⟨rfl,-,rfl⟩:=he;rw[List.length_cons,HQ.out,← HKQ.out]at hP;have b9:=HS0.out.cell 9 _ rfl;have f9:=HS0.out.free 9;have hl00:¬s2.low i=s2.num i:=hl0;have HPP:=hP;have c5:=HPP.cell 9 _ rfl;have d4:=HPP.cell 4 _ rfl;obtain⟨hun,hu0⟩:=HUU;have u0:=Ab HPP.hl u _ (Bw _ u (by rw[AJ];exact hun));rw[BW _ _ _ _ hun]at u0;have v0:=Ab HPP.hl i _ (Bw _ i (by rw[AJ];exact t1));rw[BW _ _ _ _ t1]at v0;have uf:=Ag HPP.hl u;obtain⟨g',cap',he,-,-,ua,-,-,-,-⟩:=HPP.topCall;simp only[Value.slice.injEq,Option.some.injEq,Addr.mk.injEq,and_true]at he;obtain⟨rfl,-,rfl⟩:=he;rw[HQ.out]at ua;by_cases hmn:s2.low i<s2.low u
      ·have em:min (s2.low u) (s2.low i)=s2.low i:=by omega
       rw[em]at ST;have HP:=Aa (hP.setLow u (s2.low i));clear hP HPP;go_wp2_with fail
       (refine AI (by kernel_rfl) (by kernel_rfl) ?_;(repeat still_step);refine wpStill_nil ?_)
       go_wp2_with fail
       (refine AI (by kernel_rfl) (by kernel_rfl) ?_;(repeat still_step);refine wpStill_nil ?_)
       go_wp2_with fail
       refine Bo 14 (by kernel_rfl) (by kernel_rfl) ?_;simp only[List.take_succ_cons,List.take_zero,List.drop_succ_cons,List.drop_zero];repeat still_step
       refine wpStill_nil ?_;go_wp2_with fail
       refine Bo 21 (by kernel_rfl) (by kernel_rfl) ?_;simp only[List.take_succ_cons,List.take_zero,List.drop_succ_cons,List.drop_zero];repeat still_step
       refine wpStill_nil ?_;go_wp2_with fail
       go_step3
       refine⟨rfl,_,?_,⟨{s2 with low:=Bx s2.low u (s2.low i),calls:=(u,nu)::rest},nv2,_,u,nu,rest,rfl,by kernel_rfl,Aa rfl,Aa ST.out,hrt,Aa (by first | exact HP.out | exact HP.out.drew | exact HP.out.drew.drew | exact HP.out.drew.drew.drew | exact HP.out.drew.drew.drew.drew)⟩⟩;have e:=hcs.out;show 2*Db G.n s2.num+(rest.length+1)<m;rw[hm,e];simp
      ·have em:min (s2.low u) (s2.low i)=s2.low u:=by omega
       rw[em]at ST;have HP:=Aa (hP.setLow u (s2.low u));clear hP HPP;go_wp2_with fail
       (refine AI (by kernel_rfl) (by kernel_rfl) ?_;(repeat still_step);refine wpStill_nil ?_)
       go_wp2_with fail
       (refine AI (by kernel_rfl) (by kernel_rfl) ?_;(repeat still_step);refine wpStill_nil ?_)
       go_wp2_with fail
       refine Bo 14 (by kernel_rfl) (by kernel_rfl) ?_;simp only[List.take_succ_cons,List.take_zero,List.drop_succ_cons,List.drop_zero];repeat still_step
       refine wpStill_nil ?_;go_wp2_with fail
       refine Bo 21 (by kernel_rfl) (by kernel_rfl) ?_;simp only[List.take_succ_cons,List.take_zero,List.drop_succ_cons,List.drop_zero];repeat still_step
       refine wpStill_nil ?_;go_wp2_with fail
       go_step3
       refine⟨rfl,_,?_,⟨{s2 with low:=Bx s2.low u (s2.low u),calls:=(u,nu)::rest},nv2,_,u,nu,rest,rfl,by kernel_rfl,Aa rfl,Aa ST.out,hrt,Aa (by first | exact HP.out | exact HP.out.drew | exact HP.out.drew.drew | exact HP.out.drew.drew.drew | exact HP.out.drew.drew.drew.drew)⟩⟩;have e:=hcs.out;show 2*Db G.n s2.num+(rest.length+1)<m;rw[hm,e];simp
 ·intro PASS;go_wp2_with (first | (go_at_call 117;refine SEE.out.mono ?_;rintro e w1 ⟨rfl,nv1,cv1,hM1⟩))
  rename_i hK0;refine wp_label (hK0 _ _ ?_);refine PASS (2*Db G.n (ON G s root).num+(ON G s root).calls.length) _ _ ⟨ON G s root,nv1,cv1,root,G.S root,s.calls,rfl,by kernel_rfl,Aa rfl,ST.out,?_,Aa hM1⟩;show 0≤Bx s.num root _ root;rw[AS];omega
end Go.Proofs.YtlhpjfnfemebdaaGreat
