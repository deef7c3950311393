/-
  Plain: the part that is found, and the circle through it.
-/
import Derived.Test.YtlhpjfnfemebdaaGreatKnown19
set_option linter.unusedSimpArgs false
namespace Go.Proofs.YtlhpjfnfemebdaaGreat
theorem ZR{g:Gr}{en:List (List Bool)}{ag how:Int}{p:List Int}(h:AU g en ag how p=true):0<p.length:=by
 obtain⟨-,-,-,hf⟩:=CW.1 h;exact MD (hf.elim (fun z=>(GT.1 z.2).1) (fun z=>(GT.1 z.2).1))
theorem Uj{g:Gr}{en:List (List Bool)}{ag how:Int}(hR:RT g en ag)(hS:g.S.length≤100000)(hh:how=1∨how=2)(hl:0<(Dl g en ag how).length):AU g en ag how (Dl g en ag how)=true:=by
 rcases hh with rfl | rfl
 ·rw[show Dl g en ag 1=EC g en ag from if_pos rfl]at hl ⊢;exact Wb hR (TI hR hS hl)
 ·rw[show Dl g en ag 2=Cm g en ag by unfold Dl;rw[if_neg (by omega),if_pos rfl]]at hl ⊢;exact Wa hR (Kj hR hS hl)
theorem VN{g:Gr}{en:List (List Bool)}{ag how:Int}(hR:RT g en ag)(hS:g.S.length≤100000)(hh:how=1∨how=2):AU g en ag how (Dl g en ag how)=decide (0<(Dl g en ag how).length):=by
 by_cases hl:0<(Dl g en ag how).length
 ·rw[Uj hR hS hh hl,Ck hl]
 ·rw[Cj hl];cases h:AU g en ag how (Dl g en ag how)
  ·rfl
  ·exact absurd (ZR h) hl
theorem Mj(bits n:Nat):(KV bits n).Pairwise (fun a b=>a≤b):=by
 unfold KV;rw[List.pairwise_map];exact(List.pairwise_lt_range.filter _).imp fun h=>by omega
theorem KI{g:Gr}{en:List (List Bool)}{ag how:Int}(hR:RT g en ag)(hS:g.S.length≤100000)(hh:how=1∨how=2)(hl:0<(Dl g en ag how).length):(Dl g en ag how).Pairwise (fun a b=>a≤b):=by
 rcases hh with rfl | rfl
 ·rw[show Dl g en ag 1=EC g en ag from if_pos rfl]at hl ⊢;obtain⟨b,-,-,e⟩:=WK hR hS hl;rw[e];exact Mj _ _
 ·rw[show Dl g en ag 2=Cm g en ag by unfold Dl;rw[if_neg (by omega),if_pos rfl]]at hl ⊢;obtain⟨b,-,-,e⟩:=Tk hR hS hl;rw[e];exact Mj _ _
theorem JE:∀{l:List Int},l.Pairwise (fun a b=>a≤b)→Ay l=l.getD 0 0
 | [],_=>rfl
 | x::l,h=>by
  have key:∀l:List Int,(∀y∈l,x≤y)→l.foldl min x=x:=by
   intro l
   induction l with
   | nil=>intro _;rfl
   | cons y l ih=>intro hy;rw[List.foldl_cons,Int.min_eq_left (hy y (by simp))];exact ih (fun z hz=>hy z (by simp[hz]))
  show(x::l).foldl min x=x;exact key _ (fun y hy=>by
   rcases Br.1 hy with rfl | hy
   ·exact Int.le_refl _
   ·exact(BG.1 h).1 y hy)
section
variable {g:Gr} {en:List (List Bool)} {A:Nat} {mode:Int} {part:List Int}
end
theorem Uf{g:Gr}{en:List (List Bool)}{A:Nat}{mode:Int}{part:List Int}(hg:AU g en (A:Nat) mode part=true):Cc g en (A:Nat) mode part=Gx g en mode (Aj (Ad g) part) (Ad g) (Ay part) A:=by
 unfold Cc;rw[if_pos hg,BT]
theorem Pn{g:Gr}{en:List (List Bool)}{ag mode:Int}{part:List Int}(hg:AU g en ag mode part=false):Cc g en ag mode part=(0,[],[]):=by
 unfold Cc;rw[hg];exact if_neg (by simp)
end Go.Proofs.YtlhpjfnfemebdaaGreat
