/- LassoMakes: plain: what holds of the part that is found in -/
import Derived.Test.YtlhpjfnfemebdaaGreatFolP
import Derived.Test.YtlhpjfnfemebdaaGreatJKnP
import Derived.Test.YtlhpjfnfemebdaaGreatFound19
import Derived.Test.YtlhpjfnfemebdaaGreatMake
import Derived.Test.YtlhpjfnfemebdaaGreatJFairC
import Derived.Test.YtlhpjfnfemebdaaGreatBoxL
namespace Go.Proofs.YtlhpjfnfemebdaaGreat
theorem Rn{g:Gr}{en:List (List Bool)}{A:Nat}{mode:Int}{part:List Int}(hS:g.S.length≤100000)(ho:Fs g)(hg:AU g en (A:Nat) mode part=true):Gl g (Ay part) (Cc g en (A:Nat) mode part).2.1=Ay part:=by
 have h:=LP.of hS ho hg;have hh:=EJ h.ne;obtain⟨h1,h2,-⟩:=KJ h hh;have h3:=VK h.R ho h1 h.inn hh _ (AQ _);rw[Ez]at h3;rw[Uf hg,h3,h1.last,h2]
structure gX(s:Sp)(en:List (List Bool))(A:Nat)(mode:Int)(part:List Int):Prop where
 ok:eF s en (A:Nat) mode part
 len:part.length≤1000000
 good:AU (Ai (s.confs.length:Int) s.ed) en (A:Nat) mode part=decide (0<part.length)
 lp:(ZC s en (A:Nat) mode part).length≤1000000
 lc:(Cc (Ai (s.confs.length:Int) s.ed) en (A:Nat) mode part).2.1.length≤1000000
 f1:0<part.length→Gl (Ai (s.confs.length:Int) s.ed) 0 (ZC s en (A:Nat) mode part)=part.getD 0 0
 f2:0<part.length→Gl (Ai (s.confs.length:Int) s.ed) (part.getD 0 0) (Cc (Ai (s.confs.length:Int) s.ed) en (A:Nat) mode part).2.1=part.getD 0 0
theorem fH{u:DG}{model room:Int}{s:Sp}(h:ZF u model room s):(Ai (s.confs.length:Int) s.ed).S.length=s.confs.length+1:=by
 unfold Ai;rw[if_pos h.ok,BT];unfold Iq;exact AJ _ _
theorem ZF.spl{u:DG}{model room:Int}{s:Sp}(h:ZF u model room s):gP s:=
 ⟨h.par,h.lenP,h.lenA,h.le,by rw[(Hh h.ok).2.1];have:=h.le;omega⟩
theorem eI{u:DG}{model room budget:Int}{s:Sp}(hs:Ja u model room budget=some s)(hb:budget≤500){mode:Int}(hm:mode=1∨mode=2):
 gX s (NJ u s model room) (Fx u model) mode (Dl (Ai (s.confs.length:Int) s.ed) (NJ u s model room) (Fx u model:Nat) mode):=by
 have h:=Vf hs hb;have hS:=fH h;have hle:=h.le;have hN:Ad (Ai (s.confs.length:Int) s.ed)=s.confs.length:=(Hh h.ok).2.1;have hRT:=h.table;have ho:Fs (Ai (s.confs.length:Int) s.ed):=h.once;have hgd:=VN hRT (by omega) hm;have hlst:∀part:List Int,AU (Ai (s.confs.length:Int) s.ed) (NJ u s model room) (Fx u model:Nat) mode part=true→0≤Ay part∧(Ay part).toNat<s.confs.length:=fun part hg=>by
  have hl:=LP.of (by omega) ho hg;obtain⟨i,hi,hi2⟩:=hl.inn _ (EJ hl.ne);rw[hN]at hi2;rw[hi];omega
 refine⟨⟨Nn (by omega) ho,fM (by omega) ho,hlst _,Sh (by omega) ho⟩,WQ (by omega) (by omega),hgd,?_,?_,fun hp=>?_,fun hp=>?_⟩
 ·unfold ZC;split
  ·rename_i hg;have h1:=(hlst _ hg).2;rw[Pf];have:=Qz h.par _ _ (AQ _) h1;omega
  ·simp
 ·have:=(Vr (en:=NJ u s model room) (ag:=(Fx u model:Nat)) (mode:=mode) (part:=Dl (Ai (s.confs.length:Int) s.ed) (NJ u s model room) (Fx u model:Nat) mode) (show(Ai (s.confs.length:Int) s.ed).S.length≤1000 by omega) ho).1;omega
 ·rw[Ck hp]at hgd;obtain⟨h0,h1⟩:=hlst _ hgd;unfold ZC;rw[if_pos hgd,Vt hRT.right ho hN h.par (fun j h2 h3=>((Hh h.ok).2.2.1 _).2 (fK hs j h2 h3)) h1,Int.toNat_of_nonneg h0];exact JE (KI hRT (by omega) hm hp)
 ·rw[Ck hp]at hgd;rw[← JE (KI hRT (by omega) hm hp)];exact Rn (by omega) ho hgd
end Go.Proofs.YtlhpjfnfemebdaaGreat
