/-
  Whether two lists, and two configurations, are alike.
-/
import Derived.Test.YtlhpjfnfemebdaaGreatJMachP
set_option maxRecDepth 100000
set_option maxHeartbeats 64000000
set_option linter.unusedSimpArgs false
namespace Go.Proofs.YtlhpjfnfemebdaaGreat
open Go.RowKit
theorem aV{a b:List Int}(hl:a.length=b.length)(h:∀k,k<a.length→a.getD k 0=b.getD k 0):a=b:=by
 refine List.ext_getElem hl fun k h1 h2=>?_;have:=h k h1;rwa [AM,AM,Bf h1,Bf h2]at this
theorem Od(v u:Value)(a b:List Int)(w:World)(h:Am w v a)(k:Am w u b)(hl:a.length≤1000000):
 Calls Tryz.prog 12 #[v,u] w fun r w'=>r=.returned (.bool (decide (a=b)))∧Below w.heap.size w w':=by
 obtain⟨aa,ac,rfl,ha⟩:=h;obtain⟨ba,bc,rfl,hb⟩:=k;have HA:=Aa ha;have HB:=Aa hb;clear ha hb;by_cases hlen:a.length=b.length;rotate_left
 ·have E:decide (a=b)=false:=Cj (fun e=>hlen (by rw[e]));rw[E];have n1:((a.length:Int)!=(b.length:Int))=true:=by simp;omega
  clear E hlen HA HB;go_enter Tryz.func12,Tryz.ntmps12;go_wp2_with fail
  go_ret;exact⟨rfl,Ak _ _⟩
 have HEQ:Hid ((∀k,k<a.length→a.getD k 0=b.getD k 0)→decide (a=b)=true):=Aa (fun q=>Ck (aV hlen q));have HNE:Hid (∀k,a.getD k 0≠b.getD k 0→decide (a=b)=false):=Aa (fun k q=>Cj (fun e=>q (by rw[e])));have n1:((a.length:Int)!=(b.length:Int))=false:=by simp;omega
 have HLN:=Aa hlen;generalize decide (a=b)=RES at*;clear hlen;go_enter Tryz.func12,Tryz.ntmps12;go_wp2_with fail
 clear n1;go_loopg [5] a.length (fun fu c wr=>∃k:Nat,k+fu=a.length∧c=.int .i64 k∧Hid (∀j,j<k→a.getD j 0=b.getD j 0)∧Hid (Below w.heap.size w wr))
 case atStart=>exact⟨0,by omega,rfl,Aa (fun j hj=>by omega),Aa (Ak _ _)⟩
 case round=>
  obtain⟨k,hk,rfl,HI,HBW⟩:=hrel;by_cases hlt:k<a.length
  ·obtain⟨b1,o1,rfl,d1⟩:=HA.out k hlt;obtain⟨b2,o2,rfl,e1⟩:=HB.out k (by have:=HLN.out;omega);have d1:=Af HBW.out d1;have e1:=Af HBW.out e1;have z1:(k:Int)<(a.length:Int):=by omega
   have z2:(k:Int)<(b.length:Int):=by have:=HLN.out;omega
   have HN:=Aa (HNE.out k);have HI2:Hid (a.getD k 0=b.getD k 0→∀j,j<k+1→a.getD j 0=b.getD j 0):=Aa (fun h j hj=>by
    by_cases e:j=k
    ·rw[e];exact h
    ·exact HI.out j (by omega))
   clear HNE;generalize a.getD k 0=x at*;generalize b.getD k 0=y at*;by_cases hxy:x=y
   ·have HI3:=Aa (HI2.out hxy);have q1:(x !=y)=false:=by simp[hxy]
    clear HI2 HN hxy;go_wp2_with fail
    go_quiet (fail)
    go_wp2_with fail
    go_roundg (a.length - (k+1))
    case measure=>omega
    case rel=>exact⟨k+1,by omega,by simp,HI3,Aa (by first | exact HBW.out.drew | exact BD HBW.out _)⟩
   ·have E:=Aa (HN.out hxy);have q1:(x !=y)=true:=by simpa using hxy
    clear HI2 HN hxy;go_wp2_with fail
    go_quiet (fail)
    go_wp2_with fail
    go_ret;exact⟨by rw[E.out];rfl,by first | exact HBW.out.drew | exact BD HBW.out _⟩
  ·have E:=Aa (HEQ.out (fun j hj=>HI.out j (by omega)));go_wp2_with fail
   go_ret;exact⟨by rw[E.out];rfl,HBW.out⟩
def He(a b:Cf):Bool:=decide (a.pc=b.pc)&&decide (a.mem=b.mem)&&decide (a.regs=b.regs)&&decide (a.buf=b.buf)
theorem Rx{α:Type}{a b:List (List α)}(hl:a.length=b.length)(h:∀k,k<a.length→a.getD k []=b.getD k []):a=b:=by
 refine List.ext_getElem hl fun k h1 h2=>?_;have:=h k h1;rwa [AM,AM,Bf h1,Bf h2]at this
theorem PB{a b:Cf}:He a b=true↔a.pc=b.pc∧a.mem=b.mem∧a.regs=b.regs∧a.buf=b.buf:=by
 unfold He;simp only[Ci,EU];constructor
 ·rintro⟨⟨⟨h1,h2⟩,h3⟩,h4⟩;exact⟨h1,h2,h3,h4⟩
 ·rintro⟨h1,h2,h3,h4⟩;exact⟨⟨⟨h1,h2⟩,h3⟩,h4⟩
theorem WF{a b:Cf}(h:¬(a.pc=b.pc∧a.mem=b.mem∧a.regs=b.regs∧a.buf=b.buf)):He a b=false:=by
 cases hb:He a b
 ·rfl
 ·exact absurd (PB.1 hb) h
theorem SO(v u:Value)(a b:Cf)(w:World)(ha:Ll w v a)(hb:Ll w u b)(l1:a.pc.length≤1000)(l2:a.mem.length≤1000)(l5:a.regs.length≤1000)(l6:a.buf.length≤1000)(l3:∀k,k<a.regs.length→(a.regs.getD k []).length≤1000000)(l4:∀k,k<a.buf.length→(a.buf.getD k []).length≤1000000):
 Calls Tryz.prog 36 #[v,u] w fun r w'=>r=.returned (.bool (He a b))∧Below w.heap.size w w':=by
 obtain⟨pa,pac,ra,rac,ma,mac,ba,bac,rfl,a1,a2,a3,a4⟩:=ha.var;obtain⟨pb,pbc,rb,rbc,mb,mbc,bb,bbc,rfl,b1,b2,b3,b4⟩:=hb.var;have S0:=Aa (OT.start w #[.slice pa a.pc.length pac,.slice ra a.regs.length rac,.slice ma a.mem.length mac,.slice ba a.buf.length bac] 62 #[.slice pb b.pc.length pbc,.slice rb b.regs.length rbc,.slice mb b.mem.length mbc,.slice bb b.buf.length bbc] 62);have HP:=Aa (fun(w':World) (h:Below w.heap.size w w')=>Od _ _ a.pc b.pc w' (a1.below h) (b1.below h) (by omega));have HM:=Aa (fun(w':World) (h:Below w.heap.size w w')=>Od _ _ a.mem b.mem w' (a3.below h) (b3.below h) (by omega));obtain⟨t1,t2,t3,hra⟩:=a2;cases t3;obtain⟨t1,t2,t3,hrb⟩:=b2;cases t3;obtain⟨t1,t2,t3,hba⟩:=a4;cases t3;obtain⟨t1,t2,t3,hbb⟩:=b4;cases t3;have HRA1:=Aa hra;have HRB1:=Aa hrb;have HRA2:=Aa hba;have HRB2:=Aa hbb;have HLA1:=Aa l3;have HLA2:=Aa l4;have HNOT:=Aa (WF (a:=a) (b:=b));have HY0:Hid (a.pc=b.pc∧a.mem=b.mem∧a.regs=b.regs∧a.buf=b.buf→He a b=true):=Aa PB.2;clear ha hb a1 a3 b1 b3 hra hrb hba hbb l3 l4;generalize hw2:(w.alloc (.cells #[.slice pa a.pc.length pac,.slice ra a.regs.length rac,.slice ma a.mem.length mac,.slice ba a.buf.length bac] 62)).alloc (.cells #[.slice pb b.pc.length pbc,.slice rb b.regs.length rbc,.slice mb b.mem.length mbc,.slice bb b.buf.length bbc] 62)=w2 at*;have a0:=Ab S0.out.blk1 0 _ rfl;have b0:=Ab S0.out.blk2 0 _ rfl;generalize He a b=RES at*;by_cases h1:a.pc=b.pc;rotate_left
 ·have E:=Aa (HNOT.out (fun q=>h1 q.1));rw[Cj h1]at HP;clear HNOT HY0 h1;go_enter Tryz.func36,Tryz.ntmps36;go_wp2_with (go_at_call 12;refine(HP.out _ S0.out.below).mono ?_;rintro e1 w3 ⟨rfl,hb1⟩;have S1:=Aa (S0.out.more hb1);clear hb1;obtain⟨a0,a1,a2,a3⟩:=BX S1.out.blk1;obtain⟨b0,b1,b2,b3⟩:=BX S1.out.blk2)
  go_ret;exact⟨by rw[E.out];rfl,S1.out.below⟩
 rw[Ck h1]at HP;have H1:=Aa h1;clear h1;by_cases h2:a.mem=b.mem;rotate_left
 ·have E:=Aa (HNOT.out (fun q=>h2 q.2.1));rw[Cj h2]at HM;clear HNOT HY0 h2;go_enter Tryz.func36,Tryz.ntmps36;go_wp2_with (first
   | (go_at_call 12;refine(HM.out _ S1.out.below).mono ?_;rintro e2 w4 ⟨rfl,hb2⟩;have S2:=Aa (S1.out.more hb2);clear hb2 a0 a1 a2 a3 b0 b1 b2 b3;obtain⟨a0,a1,a2,a3⟩:=BX S2.out.blk1;obtain⟨b0,b1,b2,b3⟩:=BX S2.out.blk2)
   | (go_at_call 12;refine(HP.out _ S0.out.below).mono ?_;rintro e1 w3 ⟨rfl,hb1⟩;have S1:=Aa (S0.out.more hb1);clear hb1;obtain⟨a0,a1,a2,a3⟩:=BX S1.out.blk1;obtain⟨b0,b1,b2,b3⟩:=BX S1.out.blk2))
  go_ret;exact⟨by rw[E.out];rfl,S2.out.below⟩
 rw[Ck h2]at HM;have H2:=Aa h2;clear h2;by_cases h3:a.regs.length=b.regs.length;rotate_left
 ·have E:=Aa (HNOT.out (fun q=>h3 (by rw[q.2.2.1])));have n1:((a.regs.length:Int)!=(b.regs.length:Int))=true:=by simp;omega
  clear HNOT HY0 h3;go_enter Tryz.func36,Tryz.ntmps36;go_wp2_with (first
   | (go_at_call 12;refine(HM.out _ S1.out.below).mono ?_;rintro e2 w4 ⟨rfl,hb2⟩;have S2:=Aa (S1.out.more hb2);clear hb2 a0 a1 a2 a3 b0 b1 b2 b3;obtain⟨a0,a1,a2,a3⟩:=BX S2.out.blk1;obtain⟨b0,b1,b2,b3⟩:=BX S2.out.blk2)
   | (go_at_call 12;refine(HP.out _ S0.out.below).mono ?_;rintro e1 w3 ⟨rfl,hb1⟩;have S1:=Aa (S0.out.more hb1);clear hb1;obtain⟨a0,a1,a2,a3⟩:=BX S1.out.blk1;obtain⟨b0,b1,b2,b3⟩:=BX S1.out.blk2))
  go_ret;exact⟨by rw[E.out];rfl,S2.out.below⟩
 have n1:((a.regs.length:Int)!=(b.regs.length:Int))=false:=by simp;omega
 have HLEN1:=Aa h3;by_cases h4:a.buf.length=b.buf.length;rotate_left
 ·have E:=Aa (HNOT.out (fun q=>h4 (by rw[q.2.2.2])));have n2:((a.buf.length:Int)!=(b.buf.length:Int))=true:=by simp;omega
  clear HNOT HY0 h4 h3;go_enter Tryz.func36,Tryz.ntmps36;go_wp2_with (first
   | (go_at_call 12;refine(HM.out _ S1.out.below).mono ?_;rintro e2 w4 ⟨rfl,hb2⟩;have S2:=Aa (S1.out.more hb2);clear hb2 a0 a1 a2 a3 b0 b1 b2 b3;obtain⟨a0,a1,a2,a3⟩:=BX S2.out.blk1;obtain⟨b0,b1,b2,b3⟩:=BX S2.out.blk2)
   | (go_at_call 12;refine(HP.out _ S0.out.below).mono ?_;rintro e1 w3 ⟨rfl,hb1⟩;have S1:=Aa (S0.out.more hb1);clear hb1;obtain⟨a0,a1,a2,a3⟩:=BX S1.out.blk1;obtain⟨b0,b1,b2,b3⟩:=BX S1.out.blk2))
  go_ret;exact⟨by rw[E.out];rfl,S2.out.below⟩
 have n2:((a.buf.length:Int)!=(b.buf.length:Int))=false:=by simp;omega
 have HLEN2:=Aa h4;have HYES:Hid ((∀j,j<a.regs.length→a.regs.getD j []=b.regs.getD j [])→(∀j,j<a.buf.length→a.buf.getD j []=b.buf.getD j [])→RES=true):=Aa (fun q1 q2=>HY0.out ⟨H1.out,H2.out,Rx h3 q1,Rx h4 q2⟩);have HNE1:Hid (∀k,a.regs.getD k []≠b.regs.getD k []→RES=false):=Aa (fun k q=>HNOT.out (fun z=>q (by rw[z.2.2.1])));have HNE2:Hid (∀k,a.buf.getD k []≠b.buf.getD k []→RES=false):=Aa (fun k q=>HNOT.out (fun z=>q (by rw[z.2.2.2])));clear HNOT HY0 h3 h4 H1 H2;go_enter Tryz.func36,Tryz.ntmps36;go_wp2_with (first
  | (go_at_call 12;refine(HM.out _ S1.out.below).mono ?_;rintro e2 w4 ⟨rfl,hb2⟩;have S2:=Aa (S1.out.more hb2);clear hb2 a0 a1 a2 a3 b0 b1 b2 b3;obtain⟨a0,a1,a2,a3⟩:=BX S2.out.blk1;obtain⟨b0,b1,b2,b3⟩:=BX S2.out.blk2)
  | (go_at_call 12;refine(HP.out _ S0.out.below).mono ?_;rintro e1 w3 ⟨rfl,hb1⟩;have S1:=Aa (S0.out.more hb1);clear hb1;obtain⟨a0,a1,a2,a3⟩:=BX S1.out.blk1;obtain⟨b0,b1,b2,b3⟩:=BX S1.out.blk2))
 clear a0 a1 a2 a3 b0 b1 b2 b3 n1 n2 hw2;go_loopg [5] a.regs.length (fun fu c wr=>∃k:Nat,k+fu=a.regs.length∧c=.int .i64 k∧Hid (∀j,j<k→a.regs.getD j []=b.regs.getD j [])∧Hid (Below w4.heap.size w4 wr))
 case atStart=>exact⟨0,by omega,rfl,Aa (fun j hj=>by omega),Aa (Ak _ _)⟩
 case round=>
  obtain⟨k,hk,rfl,HI,HBW⟩:=hrel;have SS:=Aa (S2.out.more HBW.out);have l1:=Ab SS.out.blk1 1 _ rfl;have l2:=Ab SS.out.blk2 1 _ rfl;by_cases hlt:k<a.regs.length
  ·have z1:(k:Int)<(a.regs.length:Int):=by omega
   have z2:(k:Int)<(b.regs.length:Int):=by have:=HLEN1.out;omega
   obtain⟨p1,q1,u1,rfl,x1,y1⟩:=HRA1.out k hlt;obtain⟨p2,q2,u2,rfl,x2,y2⟩:=HRB1.out k (by have:=HLEN1.out;omega);have x1:=Af SS.out.below x1;have x2:=Af SS.out.below x2;have HC:=Aa (fun(s:Bk wr)=>Od u1 u2 (a.regs.getD k []) (b.regs.getD k []) s.1 (y1.below (SS.out.below.trans (s.2.mono SS.out.below.size))) (y2.below (SS.out.below.trans (s.2.mono SS.out.below.size))) (HLA1.out k hlt));have HN:=Aa (HNE1.out k);have HI2:Hid (a.regs.getD k []=b.regs.getD k []→∀j,j<k+1→a.regs.getD j []=b.regs.getD j []):=Aa (fun h j hj=>by
    by_cases e:j=k
    ·rw[e];exact h
    ·exact HI.out j (by omega))
   obtain⟨e1a,e1c,rfl,-⟩:=y1;obtain⟨e2a,e2c,rfl,-⟩:=y2;clear HNE1;generalize a.regs.getD k []=x at*;generalize b.regs.getD k []=y at*;have f1:∀s:Bk wr,s.1.cell? ⟨w.heap.size,1,none⟩=some (.slice (some ⟨p1,q1,none⟩) a.regs.length rac):=fun s=>s.cell l1;have f2:∀s:Bk wr,s.1.cell? ⟨w.heap.size+1,1,none⟩=some (.slice (some ⟨p2,q2,none⟩) b.regs.length rbc):=fun s=>s.cell l2;have f3:∀s:Bk wr,s.1.cell? ⟨p1,q1+k,none⟩=some (.slice e1a x.length e1c):=fun s=>s.cell x1;have f4:∀s:Bk wr,s.1.cell? ⟨p2,q2+k,none⟩=some (.slice e2a y.length e2c):=fun s=>s.cell x2;by_cases hxy:x=y
   ·have HI3:=Aa (HI2.out hxy);rw[Ck hxy]at HC;clear HI2 HN hxy;go_wp2_with fail
    refine AD (by kernel_rfl) (by kernel_rfl) ?_;repeat (go_big_quiet_step ((go_at_call 12;exact Calls.sub_of (HC.out _))))
    refine wpQuiet_nil ?_;intro w6 hb6;have HB6:=Aa (HBW.out.trans (hb6.mono HBW.out.size));clear hb6;go_wp2_with fail
    go_roundg (a.regs.length - (k+1))
    case measure=>omega
    case rel=>exact⟨k+1,by omega,by simp,HI3,HB6⟩
   ·have E:=Aa (HN.out hxy);rw[Cj hxy]at HC;clear HI2 HN hxy;go_wp2_with fail
    refine AD (by kernel_rfl) (by kernel_rfl) ?_;repeat (go_big_quiet_step ((go_at_call 12;exact Calls.sub_of (HC.out _))))
    refine wpQuiet_nil ?_;intro w6 hb6;have S6:=Aa (SS.out.more hb6);clear hb6;go_wp2_with fail
    go_ret;exact⟨by rw[E.out];rfl,S6.out.below⟩
  ·have hkk:k=a.regs.length:=by omega
   subst hkk;have HALL:=Aa (fun j (hj:j<a.regs.length)=>HI.out j (by omega));obtain⟨wq,hwq⟩:∃x,x=wr:=⟨_,rfl⟩;subst hwq;clear HBW;go_wp2_with fail
   go_loopg [6] a.buf.length (fun fu c wr=>∃k:Nat,k+fu=a.buf.length∧c=.int .i64 k∧Hid (∀j,j<k→a.buf.getD j []=b.buf.getD j [])∧Hid (Below wq.heap.size wq wr))
   case atStart=>exact⟨0,by omega,rfl,Aa (fun j hj=>by omega),Aa (Ak _ _)⟩
   case round=>
    obtain⟨k,hk,rfl,HI,HBW⟩:=hrel;have ST:=Aa (SS.out.more HBW.out);have l1:=Ab ST.out.blk1 3 _ rfl;have l2:=Ab ST.out.blk2 3 _ rfl;by_cases hlt:k<a.buf.length
    ·have z1:(k:Int)<(a.buf.length:Int):=by omega
     have z2:(k:Int)<(b.buf.length:Int):=by have:=HLEN2.out;omega
     obtain⟨p1,q1,u1,rfl,x1,y1⟩:=HRA2.out k hlt;obtain⟨p2,q2,u2,rfl,x2,y2⟩:=HRB2.out k (by have:=HLEN2.out;omega);have x1:=Af ST.out.below x1;have x2:=Af ST.out.below x2;have HC:=Aa (fun(s:Bk wr)=>Yv u1 u2 (a.buf.getD k []) (b.buf.getD k []) s.1 (y1.below (ST.out.below.trans (s.2.mono ST.out.below.size))) (y2.below (ST.out.below.trans (s.2.mono ST.out.below.size))) (HLA2.out k hlt));have HN:=Aa (HNE2.out k);have HI2:Hid (a.buf.getD k []=b.buf.getD k []→∀j,j<k+1→a.buf.getD j []=b.buf.getD j []):=Aa (fun h j hj=>by
      by_cases e:j=k
      ·rw[e];exact h
      ·exact HI.out j (by omega))
     obtain⟨e1a,e1c,rfl,-⟩:=y1;obtain⟨e2a,e2c,rfl,-⟩:=y2;clear HNE2;generalize a.buf.getD k []=x at*;generalize b.buf.getD k []=y at*;have f1:∀s:Bk wr,s.1.cell? ⟨w.heap.size,3,none⟩=some (.slice (some ⟨p1,q1,none⟩) a.buf.length bac):=fun s=>s.cell l1;have f2:∀s:Bk wr,s.1.cell? ⟨w.heap.size+1,3,none⟩=some (.slice (some ⟨p2,q2,none⟩) b.buf.length bbc):=fun s=>s.cell l2;have f3:∀s:Bk wr,s.1.cell? ⟨p1,q1+k,none⟩=some (.slice e1a x.length e1c):=fun s=>s.cell x1;have f4:∀s:Bk wr,s.1.cell? ⟨p2,q2+k,none⟩=some (.slice e2a y.length e2c):=fun s=>s.cell x2;by_cases hxy:x=y
     ·have HI3:=Aa (HI2.out hxy);rw[Ck hxy]at HC;clear HI2 HN hxy;go_wp2_with fail
      refine AD (by kernel_rfl) (by kernel_rfl) ?_;repeat (go_big_quiet_step ((go_at_call 63;exact Calls.sub_of (HC.out _))))
      refine wpQuiet_nil ?_;intro w6 hb6;have HB6:=Aa (HBW.out.trans (hb6.mono HBW.out.size));clear hb6;go_wp2_with fail
      go_roundg (a.buf.length - (k+1))
      case measure=>omega
      case rel=>exact⟨k+1,by omega,by simp,HI3,HB6⟩
     ·have E:=Aa (HN.out hxy);rw[Cj hxy]at HC;clear HI2 HN hxy;go_wp2_with fail
      refine AD (by kernel_rfl) (by kernel_rfl) ?_;repeat (go_big_quiet_step ((go_at_call 63;exact Calls.sub_of (HC.out _))))
      refine wpQuiet_nil ?_;intro w6 hb6;have S6:=Aa (ST.out.more hb6);clear hb6;go_wp2_with fail
      go_ret;exact⟨by rw[E.out];rfl,S6.out.below⟩
    ·have hkk:k=a.buf.length:=by omega
     subst hkk;have HALL2:=Aa (fun j (hj:j<a.buf.length)=>HI.out j (by omega));have E:=Aa (HYES.out HALL.out (fun j hj=>HALL2.out j hj));go_wp2_with fail
     go_ret;exact⟨by rw[E.out];rfl,ST.out.below⟩
end Go.Proofs.YtlhpjfnfemebdaaGreat
