/-
  The path to a state leads to it, by the edges: plain.
-/
import Derived.Test.YtlhpjfnfemebdaaGreatJKnP
import Derived.Test.YtlhpjfnfemebdaaGreatJCovE
import Derived.Test.YtlhpjfnfemebdaaGreatLassoPlain
namespace Go.Proofs.YtlhpjfnfemebdaaGreat
open Go.RowKit
theorem Rf{g:Gr}{par ag:List Int}{n:Nat}(hR:Rt g)(ho:Fs g)(hN:Ad g=n)(h:∀j,1≤j→j<n→0≤par.getD j 0∧par.getD j 0<(j:Int))(hb:∀j,1≤j→j<n→(par.getD j 0,ag.getD j 0,(j:Int))∈Av g)(h0:0<n):∀m j,j≤m→j<n→Fy g 0 (DO par ag j)=(j:Int)
 | 0,j,hj,hn=>by
  obtain rfl:j=0:=by omega
  rfl
 | m+1,j,hj,hn=>by
  by_cases e:j=0
  ·subst e;rfl
  ·have hp:=h j (by omega) hn;have hi:=Rf hR ho hN h hb h0 m (par.getD j 0).toNat (by omega) (by omega);rw[JZ h (by omega) hn,Ly _ _ (by rw[hi];omega),hi,Int.toNat_of_nonneg hp.1];exact Ow ho (hb j (by omega) hn)
theorem Vt{g:Gr}{par ag:List Int}{n:Nat}(hR:Rt g)(ho:Fs g)(hN:Ad g=n)(h:∀j,1≤j→j<n→0≤par.getD j 0∧par.getD j 0<(j:Int))(hb:∀j,1≤j→j<n→(par.getD j 0,ag.getD j 0,(j:Int))∈Av g){j:Nat}(hj:j<n):Gl g 0 (DO par ag j)=(j:Int):=by
 unfold Gl;rw[if_pos (by omega)];exact Rf hR ho hN h hb (by omega) j j (AQ _) hj
end Go.Proofs.YtlhpjfnfemebdaaGreat
