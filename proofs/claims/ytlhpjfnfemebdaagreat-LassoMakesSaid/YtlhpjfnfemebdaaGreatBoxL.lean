/-
  A boxed parameter; how long a circle is.
-/
import Derived.Test.YtlhpjfnfemebdaaGreatKnown19
namespace Go.Proofs.YtlhpjfnfemebdaaGreat
open Go.RowKit
theorem VB{g:Gr}:Ad g≤g.S.length:=by
 cases h:Bj g
 ·rw[Cp h];omega
 ·rw[Ap ((Aq g).1 h)];omega
theorem Vr{g:Gr}{en:List (List Bool)}{ag mode:Int}{part:List Int}(hS:g.S.length≤1000)(ho:Fs g):(Cc g en ag mode part).2.1.length≤101000∧(Cc g en ag mode part).2.2.length≤101001:=by
 by_cases hg:AU g en ag mode part=true
 ·have e:=EP hg;have h:=LP.of (by omega) ho (e▸hg);obtain⟨h1,-,-,h2⟩:=KJ h (EJ h.ne);have h3:=Oa h;have h4:=VB (g:=g);have h5:=h.hA;have h6:(ag.toNat+1)*part.length≤101*1000:=Nat.mul_le_mul (by omega) (by omega);have h7:=h1.len;unfold Cc;rw[if_pos hg];omega
 ·unfold Cc;rw[if_neg hg];simp
end Go.Proofs.YtlhpjfnfemebdaaGreat
