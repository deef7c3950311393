/- Built of all its edges; back twice; all kept; none kept: no -/
import Derived.Test.YtlhpjfnfemebdaaGreatMade2
import Derived.Test.YtlhpjfnfemebdaaGreatKeep2
import Derived.Test.YtlhpjfnfemebdaaGreatJPartsMem
import Derived.Test.YtlhpjfnfemebdaaGreatSccLaw
import Derived.Test.YtlhpjfnfemebdaaGreatCyclic
set_option linter.unusedSimpArgs false
namespace Go.Proofs.YtlhpjfnfemebdaaGreat
open Go.RowKit
theorem ZJ{g:Gr}(h:Rt g)(hn:g.S.length≤100000):AY (Ad g:Nat) (Av g)=true:=by
 have hnr:=Ap h;refine JK (by omega) ?_;intro e he;have:=Bt h he;omega
theorem Vz{g:Gr}(h:Rt g)(hn:g.S.length≤100000):Ai (Ad g:Nat) (Av g)=g∧DF (Ad g:Nat) (Av g)=0:=by
 have hb:=ZJ h hn;refine⟨?_,by simp[DF,hb]⟩;rw[Jt hb,Ap h,bE h]
theorem Yt{g:Gr}(h:Rt g)(hn:g.S.length≤100000):Bg g (List.replicate (Ad g) true)=g:=by
 unfold Bg;rw[Fg h];have e:BA (CT (List.replicate (Ad g) true)) (Av g)=Av g:=by
  unfold BA;rw[List.filter_eq_self.2]
  ·simp[CT]
  ·intro e he;have:=Bt h he;have hnr:=Ap h;have k1:Cz (List.replicate (Ad g) true) e.1=true:=by
    unfold Cz;simp[List.getD,show e.1.toNat<Ad g by omega];omega
   have k2:Cz (List.replicate (Ad g) true) e.2.2=true:=by
    unfold Cz;simp[List.getD,show e.2.2.toNat<Ad g by omega];omega
   simp[CT,k1,k2]
 rw[e];exact(Vz h hn).1
end Go.Proofs.YtlhpjfnfemebdaaGreat
