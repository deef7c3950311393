/- Numbers by first occurrence, and the rows of equal numbers: -/
import Derived.Test.YtlhpjfnfemebdaaGreatJBase
import Derived.Test.YtlhpjfnfemebdaaGreatJRunMem
import Derived.Maps.OwnSet
set_option maxRecDepth 100000
set_option maxHeartbeats 64000000
set_option linter.unusedSimpArgs false
namespace Go.Proofs.YtlhpjfnfemebdaaGreat
open Go.RowKit
def CZ(E:Nat→Nat→Bool)(i:Nat)(s:List Nat×Nat):List Nat×Nat:=
 match (List.range i).find? (fun k=>E i k) with
 | some k=>(s.1++[s.1.getD k 0],s.2)
 | none=>(s.1++[s.2],s.2+1)
def DZ(E:Nat→Nat→Bool):Nat→List Nat×Nat
 | 0=>([],0)
 | i+1=>CZ E i (DZ E i)
theorem MW{α:Type}{p q:α→Bool}:∀l:List α,(∀x∈l,p x=q x)→l.find? p=l.find? q
 | [],_=>rfl
 | x::l,h=>by
  rw[List.find?_cons,List.find?_cons,h x (by simp),MW l (fun y hy=>h y (by simp[hy]))]
theorem Px{E E':Nat→Nat→Bool}:∀n,(∀i k,i<n→k<i→E i k=E' i k)→DZ E n=DZ E' n
 | 0,_=>rfl
 | n+1,h=>by
  show CZ E n (DZ E n)=CZ E' n (DZ E' n);rw[Px n (fun i k hi hk=>h i k (by omega) hk)];unfold CZ;rw[MW (List.range n) (fun k hk=>h n k (by omega) (Cg.1 hk))]
theorem Fb(E:Nat→Nat→Bool):∀n,(DZ E n).1.length=n
 | 0=>rfl
 | n+1=>by
  show(CZ E n (DZ E n)).1.length=_;unfold CZ;split <;> simp[Fb E n]
def Mp(E:Nat→Nat→Bool)(i:Nat):Nat:=(DZ E (i+1)).1.getD i 0
theorem Hg(E:Nat→Nat→Bool):∀n k,k<n→(DZ E n).1.getD k 0=Mp E k
 | 0,k,h=>by omega
 | n+1,k,h=>by
  by_cases e:k=n
  ·rw[e];rfl
  ·have hk:k<n:=by omega
   rw[← Hg E n k hk];show(CZ E n (DZ E n)).1.getD k 0=_;have hl:=Fb E n;have:∀x,((DZ E n).1++[x]).getD k 0=(DZ E n).1.getD k 0:=fun x=>by
    simp only[AM];rw[List.getElem?_append_left (by omega)]
   unfold CZ;split <;> exact this _
theorem NR{E:Nat→Nat→Bool}{i k:Nat}(h:(List.range i).find? (fun k=>E i k)=some k):Mp E i=Mp E k:=by
 have hk:k<i:=Cg.1 (List.mem_of_find?_eq_some h);show(CZ E i (DZ E i)).1.getD i 0=_;unfold CZ;rw[h];have hl:=Fb E i;simp only[AM];rw[List.getElem?_append_right (by omega),hl];simp;rw[← AM];exact Hg E i k hk
theorem IO{E:Nat→Nat→Bool}{i:Nat}(h:(List.range i).find? (fun k=>E i k)=none):Mp E i=(DZ E i).2:=by
 show(CZ E i (DZ E i)).1.getD i 0=_;unfold CZ;rw[h];have hl:=Fb E i;simp only[AM];rw[List.getElem?_append_right (by omega),hl];simp
theorem EZ{E:Nat→Nat→Bool}{i k:Nat}(h:(List.range i).find? (fun k=>E i k)=some k):(DZ E (i+1)).2=(DZ E i).2:=by
 show(CZ E i (DZ E i)).2=_;unfold CZ;rw[h]
theorem Fa{E:Nat→Nat→Bool}{i:Nat}(h:(List.range i).find? (fun k=>E i k)=none):(DZ E (i+1)).2=(DZ E i).2+1:=by
 show(CZ E i (DZ E i)).2=_;unfold CZ;rw[h]
theorem La(E:Nat→Nat→Bool):∀n i,i<n→Mp E i<(DZ E n).2
 | 0,_,h=>by omega
 | n+1,i,h=>by
  rcases e:(List.range n).find? (fun k=>E n k) with _ | k
  ·rw[Fa e];by_cases q:i=n
   ·rw[q,IO e];omega
   ·have:=La E n i (by omega);omega
  ·rw[EZ e];by_cases q:i=n
   ·rw[q,NR e];exact La E n k (Cg.1 (List.mem_of_find?_eq_some e))
   ·exact La E n i (by omega)
theorem Fe(E:Nat→Nat→Bool):∀n,(DZ E n).2≤n
 | 0=>AQ _
 | n+1=>by
  rcases e:(List.range n).find? (fun k=>E n k) with _ | k
  ·rw[Fa e];have:=Fe E n;omega
  ·rw[EZ e];have:=Fe E n;omega
def Gh{α:Type}[DecidableEq α](f:Nat→α)(i k:Nat):Bool:=decide (f i=f k)
section
variable {α:Type} [DecidableEq α] {f:Nat→α}
theorem SM{i:Nat}:(List.range i).find? (fun k=>Gh f i k)=none↔∀k,k<i→f i≠f k:=by
 simp[Gh,List.find?_eq_none]
theorem RQ{i k:Nat}(h:(List.range i).find? (fun k=>Gh f i k)=some k):k<i∧f i=f k:=
 ⟨Cg.1 (List.mem_of_find?_eq_some h),by have:=List.find?_some h;simpa[Gh]using this⟩
theorem Us:∀n i k,i<n→k<n→(Mp (Gh f) i=Mp (Gh f) k↔f i=f k)
 | 0,_,_,h,_=>by omega
 | n+1,i,k,hi,hk=>by
  have key:∀k,k<n→(Mp (Gh f) n=Mp (Gh f) k↔f n=f k):=fun k hk=>by
   rcases e:(List.range n).find? (fun k=>Gh f n k) with _ | j
   ·have h1:=La (Gh f) n k hk;rw[IO e];constructor
    ·intro q;omega
    ·intro q;exact absurd q (SM.1 e k hk)
   ·rw[NR e,Us n j k (RQ e).1 hk,(RQ e).2]
  by_cases e1:i=n
  ·by_cases e2:k=n
   ·rw[e1,e2];simp
   ·rw[e1];exact key k (by omega)
  ·by_cases e2:k=n
   ·rw[e2];have:=key i (by omega);constructor
    ·intro q;exact(this.1 q.symm).symm
    ·intro q;exact(this.2 q.symm).symm
   ·exact Us n i k (by omega) (by omega)
theorem Wo{i k:Nat}(hi:∀j,j<i→f i≠f j)(hk:k<i):Mp (Gh f) k<Mp (Gh f) i:=by
 rw[IO (SM.2 hi)];exact La _ i k hk
end
theorem Nd:∀{l l':List Nat},l.Pairwise (·<·)→l'.Pairwise (·<·)→(∀x,x∈l↔x∈l')→l=l'
 | [],[],_,_,_=>rfl
 | [],y::l',_,_,h=>by have:=(h y).2 (by simp);cases this
 | x::l,[],_,_,h=>by have:=(h x).1 (by simp);cases this
 | x::l,y::l',h1,h2,h=>by
  have a1:=BG.1 h1;have a2:=BG.1 h2;have e:x=y:=by
   have m1:=(h x).1 (by simp);have m2:=(h y).2 (by simp);rcases Br.1 m1 with e | m1
   ·exact e
   ·rcases Br.1 m2 with e | m2
    ·exact e.symm
    ·have:=a1.1 y m2;have:=a2.1 x m1;omega
  subst e
  congr 1
  refine Nd a1.2 a2.2 fun z=>?_;have hz:=h z;simp only[Br]at hz;constructor
  ·intro m;rcases hz.1 (.inr m) with e | m'
   ·have:=a1.1 z m;omega
   ·exact m'
  ·intro m;rcases hz.2 (.inr m) with e | m'
   ·have:=a2.1 z m;omega
   ·exact m'
section
variable {α:Type} [DecidableEq α]
def OG(q:Nat→α)(inn:Nat→Bool)(i:Nat):Bool:=inn i&&(List.range i).all (fun k=>!(inn k&&decide (q k=q i)))
def Bm(q:Nat→α)(inn:Nat→Bool)(n:Nat):List Nat:=(List.range n).filter (OG q inn)
def CR(q:Nat→α)(inn:Nat→Bool)(n:Nat)(p:α):List Nat:=(List.range n).filter (fun k=>inn k&&decide (q k=p))
def Ii(q:Nat→α)(inn:Nat→Bool)(n:Nat):List (List Nat):=(Bm q inn n).map (fun j=>CR q inn n (q j))
def ED(q:Nat→α)(inn:Nat→Bool)(n:Nat)(p:α):Option Nat:=(Bm q inn n).findIdx? (fun j=>decide (q j=p))
variable {q:Nat→α} {inn:Nat→Bool}
theorem Cx{i:Nat}:OG q inn i=true↔inn i=true∧∀k,k<i→inn k=true→q k≠q i:=by
 simp only[OG,Ci,List.all_eq_true,Cg,Bool.not_eq_true',Bool.and_eq_false_iff,decide_eq_false_iff_not];constructor
 ·rintro⟨h1,h2⟩;refine⟨h1,fun k hk hi=>?_⟩;rcases h2 k hk with e | e
  ·rw[hi]at e;cases e
  ·exact e
 ·rintro⟨h1,h2⟩;refine⟨h1,fun k hk=>?_⟩;cases e:inn k
  ·exact .inl rfl
  ·exact .inr (h2 k hk e)
theorem Ir(n:Nat):Bm q inn (n+1)=Bm q inn n++if OG q inn n then [n] else []:=by
 unfold Bm;rw[List.range_succ,List.filter_append]
 congr 1
 simp only[List.filter_cons,List.filter_nil]
theorem EX(n:Nat)(p:α):CR q inn (n+1) p=CR q inn n p++if inn n&&decide (q n=p) then [n] else []:=by
 unfold CR;rw[List.range_succ,List.filter_append]
 congr 1
 simp only[List.filter_cons,List.filter_nil]
theorem BP{n i:Nat}:i∈Bm q inn n↔i<n∧OG q inn i=true:=by
 simp[Bm]
theorem Jf{n i:Nat}{p:α}:i∈CR q inn n p↔i<n∧inn i=true∧q i=p:=by
 simp[CR]
theorem FM:∀(m n i:Nat),i<m→i<n→inn i=true→∃j,j∈Bm q inn n∧q j=q i∧j≤i
 | 0,_,_,h,_,_=>by omega
 | m+1,n,i,hm,hn,hi=>by
  by_cases hf:OG q inn i=true
  ·exact⟨i,BP.2 ⟨hn,hf⟩,rfl,AQ _⟩
  ·have:∃k,k<i∧inn k=true∧q k=q i:=by
    refine Classical.byContradiction fun hne=>hf (Cx.2 ⟨hi,fun k hk hik e=>hne ⟨k,hk,hik,e⟩⟩)
   obtain⟨k,hk,hik,e⟩:=this;obtain⟨j,h1,h2,h3⟩:=FM m n k (by omega) (by omega) hik;exact⟨j,h1,by rw[h2,e],by omega⟩
theorem ZM{n:Nat}(h:inn n=false):Ii q inn (n+1)=Ii q inn n∧∀p,ED q inn (n+1) p=ED q inn n p:=by
 have hf:OG q inn n=false:=by simp[OG,h]
 have e:Bm q inn (n+1)=Bm q inn n:=by rw[Ir,hf];simp
 have e2:∀p,CR q inn (n+1) p=CR q inn n p:=fun p=>by rw[EX,h];simp
 constructor
 ·unfold Ii;rw[e];exact List.map_congr_left fun j _=>e2 _
 ·intro p;unfold ED;rw[e]
theorem SG{n at':Nat}{p:α}(h:ED q inn n p=some at'):at'<(Bm q inn n).length∧∃j,(Bm q inn n)[at']?=some j∧q j=p:=by
 unfold ED at h;rw[List.findIdx?_eq_some_iff_getElem]at h;obtain⟨hl,h1,-⟩:=h;exact⟨hl,_,Bf hl,by simpa using h1⟩
theorem Wy{n:Nat}(h:inn n=true)(hp:ED q inn n (q n)=none):
 Ii q inn (n+1)=Ii q inn n++[[n]]∧∀p,ED q inn (n+1) p=if p=q n then some (Ii q inn n).length else ED q inn n p:=by
 have hno:∀k,k<n→inn k=true→q k≠q n:=fun k hk hi e=>by
  obtain⟨j,h1,h2,-⟩:=FM (q:=q) (k+1) n k (by omega) hk hi;have:=List.findIdx?_eq_none_iff.1 hp j h1;rw[h2,e]at this;simp at this
 have hf:OG q inn n=true:=Cx.2 ⟨h,hno⟩;have e:Bm q inn (n+1)=Bm q inn n++[n]:=by rw[Ir,hf];simp
 constructor
 ·unfold Ii;rw[e,Ec,List.map_singleton]
  congr 1
  ·refine List.map_congr_left fun j hj=>?_;rw[EX];have hj':=BP.1 hj;have:q n≠q j:=fun e=>hno j hj'.1 (Cx.1 hj'.2).1 e.symm;simp[this]
  ·rw[EX];have:CR q inn n (q n)=[]:=by
    refine List.eq_nil_iff_forall_not_mem.2 fun k hk=>?_;obtain⟨h1,h2,h3⟩:=Jf.1 hk;exact hno k h1 h2 h3
   rw[this];simp[h]
 ·intro p;have hl:(Ii q inn n).length=(Bm q inn n).length:=by simp[Ii]
  unfold ED;rw[e,List.findIdx?_append,hl];by_cases hpe:p=q n
  ·subst hpe;rw[if_pos rfl];unfold ED at hp;rw[hp];simp[List.findIdx?_cons]
  ·rw[if_neg hpe];have:¬q n=p:=fun e=>hpe e.symm;simp[List.findIdx?_cons,this]
theorem getElem?_inj_firsts{n a b:Nat}{j k:Nat}(h1:(Bm q inn n)[a]?=some j)(h2:(Bm q inn n)[b]?=some k)(e:q j=q k):a=b:=by
 have hs:(Bm q inn n).Pairwise (·<·):=by unfold Bm;exact List.pairwise_lt_range.filter _
 have m1:=BP.1 (List.mem_of_getElem? h1);have m2:=BP.1 (List.mem_of_getElem? h2);have ejk:j=k:=by
  rcases Nat.lt_trichotomy j k with h | h | h
  ·exact absurd e ((Cx.1 m2.2).2 j h (Cx.1 m1.2).1)
  ·exact h
  ·exact absurd e.symm ((Cx.1 m1.2).2 k h (Cx.1 m2.2).1)
 subst ejk;obtain⟨ha,ea⟩:=List.getElem?_eq_some_iff.1 h1;obtain⟨hb,eb⟩:=List.getElem?_eq_some_iff.1 h2;have hp:=List.pairwise_iff_getElem.1 hs;rcases Nat.lt_trichotomy a b with h | h | h
 ·have:=hp a b ha hb h;omega
 ·exact h
 ·have:=hp b a hb ha h;omega
theorem XX{n at':Nat}(h:inn n=true)(hp:ED q inn n (q n)=some at'):
 Ii q inn (n+1)=(Ii q inn n).modify at' (·++[n])∧∀p,ED q inn (n+1) p=ED q inn n p:=by
 obtain⟨hl,j,hj,hq⟩:=SG hp;have hjm:=BP.1 (List.mem_of_getElem? hj);have hf:OG q inn n=false:=by
  cases e:OG q inn n
  ·rfl
  ·exact absurd hq ((Cx.1 e).2 j hjm.1 (Cx.1 hjm.2).1)
 have e:Bm q inn (n+1)=Bm q inn n:=by rw[Ir,hf];simp
 constructor
 ·refine List.ext_getElem? fun k=>?_;unfold Ii;rw[List.getElem?_modify,List.getElem?_map,List.getElem?_map,e];rcases hk:(Bm q inn n)[k]? with _ | i
  ·simp
  ·simp only[Option.map_some];by_cases ek:at'=k
   ·subst ek;rw[hj]at hk;obtain rfl:j=i:=by simpa using hk
    rw[EX];simp[h,hq]
   ·have:q n≠q i:=fun ee=>ek (getElem?_inj_firsts hj hk (by rw[hq,ee]));rw[EX];simp[this,ek]
 ·intro p;unfold ED;rw[e]
end
theorem bV {q:Nat→Nat} {inn:Nat→Bool} {n:Nat} (hlt:∀k,k<n→inn k=true→q k<n)
 (hm:∀i j,i<j→j<n→OG q inn i=true→OG q inn j=true→q i<q j):
 Ii q inn n=((List.range n).map (fun p=>CR q inn n p)).filter (fun l=>!l.isEmpty):=by
 have hs:((Bm q inn n).map q).Pairwise (·<·):=by
  rw[List.pairwise_map];have h0:(Bm q inn n).Pairwise (·<·):=by unfold Bm;exact List.pairwise_lt_range.filter _
  refine List.Pairwise.imp_of_mem ?_ h0;intro a b ha hb hab;have h1:=BP.1 ha;have h2:=BP.1 hb;exact hm a b hab h2.1 h1.2 h2.2
 have e:(Bm q inn n).map q=(List.range n).filter (fun p=>!(CR q inn n p).isEmpty):=by
  refine Nd hs (List.pairwise_lt_range.filter _) fun x=>?_;rw[DJ,List.mem_filter,Cg];constructor
  ·rintro⟨j,hj,rfl⟩;have h1:=BP.1 hj;have h2:=(Cx.1 h1.2).1;refine⟨hlt j h1.1 h2,?_⟩;have:j∈CR q inn n (q j):=Jf.2 ⟨h1.1,h2,rfl⟩;cases hr:CR q inn n (q j)
   ·rw[hr]at this;cases this
   ·rfl
  ·rintro⟨hx,hr⟩;rcases hrow:CR q inn n x with _ | ⟨k,l⟩
   ·rw[hrow]at hr;simp at hr
   ·have:k∈CR q inn n x:=by rw[hrow];simp
    obtain⟨h1,h2,h3⟩:=Jf.1 this;obtain⟨j,a,b,-⟩:=FM (q:=q) (k+1) n k (by omega) h1 h2;exact⟨j,a,by rw[b,h3]⟩
 rw[List.filter_map];show(Bm q inn n).map ((fun p=>CR q inn n p) ∘ q)=_;rw[← List.map_map,e]
 rfl
def EF(x m:Int):Bool:=decide (0≤x)&&decide (x<m)
theorem Er{x m:Int}:EF x m=true↔0≤x∧x<m:=by unfold EF;rw[Ci,EU,EU]
theorem MZ(x m:Int)(w:World):Calls Tryz.prog 65 #[.int .i64 x,.int .i64 m] w fun e w'=>e=.returned (.bool (EF x m))∧Below w.heap.size w w':=by
 unfold EF;by_cases h:0≤x
 ·go_enter Tryz.func65,Tryz.ntmps65;go_wp2_with fail
  go_ret;exact⟨by rw[Ck h];rfl,Ak _ _⟩
 ·have h':x<0:=by omega
  go_enter Tryz.func65,Tryz.ntmps65;go_wp2_with fail
  go_ret;exact⟨by rw[Cj (show¬0≤x by omega)];rfl,Ak _ _⟩
theorem Ht(x m:Int)(w:World):Calls Tryz.prog 68 #[.int .i64 x,.int .i64 m] w fun e w'=>e=.returned (.bool (EF x m))∧Below w.heap.size w w':=by
 unfold EF;by_cases h:0≤x
 ·go_enter Tryz.func68,Tryz.ntmps68;go_wp2_with fail
  go_ret;exact⟨by rw[Ck h];rfl,Ak _ _⟩
 ·have h':x<0:=by omega
  go_enter Tryz.func68,Tryz.ntmps68;go_wp2_with fail
  go_ret;exact⟨by rw[Cj (show¬0≤x by omega)];rfl,Ak _ _⟩
def Em(l:List Int)(m:Int):Bool:=l.all (fun x=>EF x m)
theorem DQ{l:List Int}{m:Int}:Em l m=true↔∀x∈l,0≤x∧x<m:=by unfold Em;rw[List.all_eq_true];exact forall₂_congr fun x _=>Er
theorem Yl{l:List Int}{m:Int}{k:Nat}(hk:k<l.length)(h:EF (l.getD k 0) m=false):Em l m=false:=by
 cases ha:Em l m
 ·rfl
 ·have h1:=(DQ.1 ha) (l.getD k 0) (by simp[List.getD,hk]);rw[Er.2 h1]at h;cases h
theorem aG{l:List Int}{m:Int}(h:∀k,k<l.length→EF (l.getD k 0) m=true):Em l m=true:=by
 refine DQ.2 fun x hx=>?_;obtain⟨k,hk,rfl⟩:=Ey hx;have:=h k hk;rw[AM,Bf hk]at this;exact Er.1 this
theorem Qw(v:Value)(l:List Int)(m:Int)(w:World)(h:Am w v l)(hl:l.length≤1000000):
 Calls Tryz.prog 39 #[v,.int .i64 m] w fun e w'=>e=.returned (.bool (Em l m))∧Below w.heap.size w w':=by
 obtain⟨a,ac,rfl,ha⟩:=h;have HA:=Aa ha;have HY:Hid ((∀k,k<l.length→EF (l.getD k 0) m=true)→Em l m=true):=Aa aG;have HN:Hid (∀k,k<l.length→EF (l.getD k 0) m=false→Em l m=false):=Aa (fun k hk h=>Yl hk h);clear ha;generalize Em l m=RES at*;go_enter Tryz.func39,Tryz.ntmps39;go_wp2_with fail
 go_loopg [5] l.length (fun fu c wr=>∃k:Nat,k+fu=l.length∧c=.int .i64 k∧Hid (∀j,j<k→EF (l.getD j 0) m=true)∧Hid (Below w.heap.size w wr))
 case atStart=>exact⟨0,by omega,rfl,Aa (fun j hj=>by omega),Aa (Ak _ _)⟩
 case round=>
  obtain⟨k,hk,rfl,HI,HB⟩:=hrel;by_cases hlt:k<l.length
  ·obtain⟨b1,o1,rfl,d1⟩:=HA.out k hlt;have d1:=Af HB.out d1;have z1:(k:Int)<(l.length:Int):=by omega
   have HIN:=Aa (MZ (l.getD k 0) m wr);have HK:=Aa (HN.out k hlt);have HS:Hid (EF (l.getD k 0) m=true→∀j,j<k+1→EF (l.getD j 0) m=true):=Aa (fun h j hj=>by
    by_cases e:j=k
    ·rw[e];exact h
    ·exact HI.out j (by omega))
   generalize l.getD k 0=x at d1 HIN HK HS;cases hx:EF x m
   ·rw[hx]at HIN HK;have E:=Aa (HK.out rfl);clear hx HS HK;go_wp2_with (go_at_call 65;refine HIN.out.mono ?_;rintro e w2 ⟨rfl,hb2⟩;have HB2:=Aa (HB.out.trans (hb2.mono HB.out.size));clear hb2)
    go_ret;exact⟨by rw[E.out];rfl,HB2.out⟩
   ·rw[hx]at HIN;have HS2:=Aa (HS.out hx);clear hx HS HK;go_wp2_with (go_at_call 65;refine HIN.out.mono ?_;rintro e w2 ⟨rfl,hb2⟩;have HB2:=Aa (HB.out.trans (hb2.mono HB.out.size));clear hb2)
    go_roundg (l.length - (k+1))
    case measure=>omega
    case rel=>exact⟨k+1,by omega,by simp,HS2,HB2⟩
  ·have hkk:k=l.length:=by omega
   subst hkk;have E:=Aa (HY.out HI.out);go_wp2_with fail
   go_ret;exact⟨by rw[E.out];rfl,HB.out⟩
def Hr(b:Bool):Int:=if b=true then 1 else 0
theorem Sf(b:Bool)(w:World):Calls Tryz.prog 109 #[.bool b] w fun e w'=>e=.returned (.int .i64 (Hr b))∧Below w.heap.size w w':=by
 cases b
 ·go_enter Tryz.func109,Tryz.ntmps109;go_wp2_with fail
  go_ret;exact⟨rfl,Ak _ _⟩
 ·go_enter Tryz.func109,Tryz.ntmps109;go_wp2_with fail
  go_ret;exact⟨rfl,Ak _ _⟩
def Jv(op a b m:Int):Int:=
 if op=6 then(a+b) % m else if op=7 then(a - b+m) % m else if op=8 then a*b % m else if op=9 then Hr (a==b) else if op=10 then Hr (a !=b) else if op=11 then Hr (decide (a<b)) else if op=12 then Hr (decide (a≤b)) else if op=13 then Hr (a !=0&&b !=0) else Hr (a !=0 || b !=0)
theorem aJ{op a b m:Int}(hm:2≤m):0≤Jv op a b m∧Jv op a b m<m:=by
 have t:∀b,0≤Hr b∧Hr b<m:=fun b=>by cases b <;> simp[Hr] <;> omega
 unfold Jv;split
 ·exact⟨Int.emod_nonneg _ (by omega),Int.emod_lt_of_pos _ (by omega)⟩
 split
 ·exact⟨Int.emod_nonneg _ (by omega),Int.emod_lt_of_pos _ (by omega)⟩
 split
 ·exact⟨Int.emod_nonneg _ (by omega),Int.emod_lt_of_pos _ (by omega)⟩
 repeat' split
 all_goals exact t _
theorem eM(op a b m:Int)(w:World)(h0:0≤a∧a<16)(h1:0≤b∧b<16)(hm:2≤m∧m≤16)(hbm:b<m):
 Calls Tryz.prog 110 #[.int .i64 op,.int .i64 a,.int .i64 b,.int .i64 m] w fun e w'=>e=.returned (.int .i64 (Jv op a b m))∧Below w.heap.size w w':=by
 have nm:(m==0)=false:=Bh (by omega);have HT:=Aa Sf;have hmul:0≤a*b∧a*b≤256:=⟨Int.mul_nonneg (by omega) (by omega),by have:=Int.mul_le_mul (show a≤16 by omega) (show b≤16 by omega) (by omega) (by omega);omega⟩;have W1:IntKind.i64.wrap (a+b)=a+b:=DS _ (by omega);have W2:IntKind.i64.wrap (a - b)=a - b:=DS _ (by omega);have W3:IntKind.i64.wrap (a - b+m)=a - b+m:=DS _ (by omega);have W4:IntKind.i64.wrap (a*b)=a*b:=DS _ (by omega);have T1:(a+b).tmod m=(a+b) % m:=Int.tmod_eq_emod_of_nonneg (by omega);have T2:(a - b+m).tmod m=(a - b+m) % m:=Int.tmod_eq_emod_of_nonneg (by omega);have T3:(a*b).tmod m=a*b % m:=Int.tmod_eq_emod_of_nonneg (by omega);by_cases h6:op=6
 ·subst h6;go_enter Tryz.func110,Tryz.ntmps110;go_wp2_with fail
  go_ret;exact⟨by unfold Jv;simp,Ak _ _⟩
 have n6:(op==6)=false:=Bh h6;by_cases h7:op=7
 ·subst h7;go_enter Tryz.func110,Tryz.ntmps110;go_wp2_with fail
  go_ret;exact⟨by unfold Jv;simp,Ak _ _⟩
 have n7:(op==7)=false:=Bh h7;by_cases h8:op=8
 ·subst h8;go_enter Tryz.func110,Tryz.ntmps110;go_wp2_with fail
  go_ret;exact⟨by unfold Jv;simp,Ak _ _⟩
 have n8:(op==8)=false:=Bh h8;by_cases h9:op=9
 ·subst h9;go_enter Tryz.func110,Tryz.ntmps110;go_wp2_with (go_at_call 109;refine(HT.out _ _).mono ?_;rintro e w2 ⟨rfl,hb2⟩;have HB2:=Aa hb2;clear hb2)
  go_ret;exact⟨rfl,HB2.out⟩
 have n9:(op==9)=false:=Bh h9;by_cases h10:op=10
 ·subst h10;go_enter Tryz.func110,Tryz.ntmps110;go_wp2_with (go_at_call 109;refine(HT.out _ _).mono ?_;rintro e w2 ⟨rfl,hb2⟩;have HB2:=Aa hb2;clear hb2)
  go_ret;exact⟨rfl,HB2.out⟩
 have n10:(op==10)=false:=Bh h10;by_cases h11:op=11
 ·subst h11;go_enter Tryz.func110,Tryz.ntmps110;go_wp2_with (go_at_call 109;refine(HT.out _ _).mono ?_;rintro e w2 ⟨rfl,hb2⟩;have HB2:=Aa hb2;clear hb2)
  go_ret;exact⟨rfl,HB2.out⟩
 have n11:(op==11)=false:=Bh h11;by_cases h12:op=12
 ·subst h12;go_enter Tryz.func110,Tryz.ntmps110;go_wp2_with (go_at_call 109;refine(HT.out _ _).mono ?_;rintro e w2 ⟨rfl,hb2⟩;have HB2:=Aa hb2;clear hb2)
  go_ret;exact⟨rfl,HB2.out⟩
 have n12:(op==12)=false:=Bh h12;by_cases h13:op=13
 ·subst h13;by_cases ha:a=0
  ·subst ha;go_enter Tryz.func110,Tryz.ntmps110;go_wp2_with (go_at_call 109;refine(HT.out _ _).mono ?_;rintro e w2 ⟨rfl,hb2⟩;have HB2:=Aa hb2;clear hb2)
   go_ret;exact⟨rfl,HB2.out⟩
  ·have na:(a !=0)=true:=by simpa using ha
   have E:Jv 13 a b m=Hr (b !=0):=by unfold Jv;simp[na]
   rw[E];go_enter Tryz.func110,Tryz.ntmps110;go_wp2_with (go_at_call 109;refine(HT.out _ _).mono ?_;rintro e w2 ⟨rfl,hb2⟩;have HB2:=Aa hb2;clear hb2)
   go_ret;exact⟨rfl,HB2.out⟩
 have n13:(op==13)=false:=Bh h13;by_cases ha:a=0
 ·subst ha;have E:Jv op 0 b m=Hr (b !=0):=by unfold Jv;simp[*]
  rw[E];clear E;go_enter Tryz.func110,Tryz.ntmps110;go_wp2_with (go_at_call 109;refine(HT.out _ _).mono ?_;rintro e w2 ⟨rfl,hb2⟩;have HB2:=Aa hb2;clear hb2)
  go_ret;exact⟨rfl,HB2.out⟩
 ·have na:(a !=0)=true:=by simpa using ha
  have E:Jv op a b m=Hr true:=by unfold Jv;simp[*]
  rw[E];clear E;go_enter Tryz.func110,Tryz.ntmps110;go_wp2_with (go_at_call 109;refine(HT.out _ _).mono ?_;rintro e w2 ⟨rfl,hb2⟩;have HB2:=Aa hb2;clear hb2)
  go_ret;exact⟨rfl,HB2.out⟩
def Bv(s:ByteArray)(c:Int):Bool:=s.data.toList.any (fun b=>(b.toNat:Int)==c)
theorem YB{s:ByteArray}{c:Int}{k:Nat}(hk:k<s.size)(h:(s[k].toNat:Int)=c):Bv s c=true:=by
 unfold Bv;rw[List.any_eq_true];exact⟨s.data[k]'hk,by simp,by rw[beq_iff_eq];exact h⟩
theorem ZU{s:ByteArray}{c:Int}(h:∀k (hk:k<s.size),(s[k].toNat:Int)≠c):Bv s c=false:=by
 cases hb:Bv s c
 ·rfl
 ·unfold Bv at hb;rw[List.any_eq_true]at hb;obtain⟨b,hm,hb⟩:=hb;obtain⟨k,hk,rfl⟩:=Ey hm;rw[beq_iff_eq,Array.getElem_toList]at hb;exact absurd hb (h k (by simpa using hk))
theorem GG(s:ByteArray)(c:Int)(w:World)(hs:s.size≤200):Calls Tryz.prog 67 #[.string s,.int .u8 c] w fun e w'=>e=.returned (.bool (Bv s c))∧Below w.heap.size w w':=by
 have HY:Hid (∀k (hk:k<s.size),(s[k].toNat:Int)=c→Bv s c=true):=Aa (fun k hk h=>YB hk h);have HN:Hid ((∀k (hk:k<s.size),(s[k].toNat:Int)≠c)→Bv s c=false):=Aa ZU;generalize Bv s c=RES at*;go_enter Tryz.func67,Tryz.ntmps67;go_wp2_with fail
 go_loopg [5] s.size (fun fu q wr=>∃k:Nat,k+fu=s.size∧q=.int .i64 k∧Hid (∀j (hj:j<s.size),j<k→(s[j].toNat:Int)≠c)∧Hid (Below w.heap.size w wr))
 case atStart=>exact⟨0,by omega,rfl,Aa (fun j hj h=>by omega),Aa (Ak _ _)⟩
 case round=>
  obtain⟨k,hk,rfl,HI,HB⟩:=hrel;by_cases hlt:k<s.size
  ·have z1:(k:Int)<(s.size:Int):=by omega
   by_cases hx:(s[k].toNat:Int)=c
   ·have n1:((s[k].toNat:Int)==c)=true:=by simp[hx]
    have E:=Aa (HY.out k hlt hx);go_wp2_with fail
    go_ret;exact⟨by rw[E.out];rfl,HB.out⟩
   ·have n1:((s[k].toNat:Int)==c)=false:=Bh hx;have HI2:Hid (∀j (hj:j<s.size),j<k+1→(s[j].toNat:Int)≠c):=Aa (fun j hj h=>by
     by_cases e:j=k
     ·subst e;exact hx
     ·exact HI.out j hj (by omega))
    go_wp2_with fail
    go_roundg (s.size - (k+1))
    case measure=>omega
    case rel=>exact⟨k+1,by omega,by simp,HI2,HB⟩
  ·have hkk:k=s.size:=by omega
   subst hkk;have E:=Aa (HN.out (fun j hj=>HI.out j hj hj));go_wp2_with fail
   go_ret;exact⟨by rw[E.out];rfl,HB.out⟩
def Rb(op:Int):ByteArray:=if op=2 then⟨#[114,101]⟩ else if op=3 then⟨#[114,108]⟩ else if op=4 then⟨#[108,101]⟩ else if op=5 then⟨#[114,108,101,102]⟩ else if op=6∨op=7 then⟨#[114,108,101]⟩ else if op=8 then⟨#[]⟩ else if op=9 then⟨#[108,101,110]⟩ else if op=20 then⟨#[116]⟩ else if op=21 then⟨#[101,116]⟩ else⟨#[]⟩
def IN(op:Int):Bool:=decide (2≤op∧op≤9∨op=20∨op=21)
theorem Cu(op:Int)(w:World):Calls Tryz.prog 66 #[.int .i64 op] w fun e w'=>e=.returned (.tuple #[.string (Rb op),.bool (IN op)])∧Below w.heap.size w w':=by
 by_cases h2:op=2
 ·subst h2;go_enter Tryz.func66,Tryz.ntmps66;go_wp2_with fail
  refine Bd (v:=.tuple #[.string ⟨#[114,101]⟩,.bool true]) (by simp[results,Tryz.results66,go_sem]) rfl ?_;exact⟨rfl,Ak _ _⟩
 have n2:(op==2)=false:=Bh h2;by_cases h3:op=3
 ·subst h3;go_enter Tryz.func66,Tryz.ntmps66;go_wp2_with fail
  refine Bd (v:=.tuple #[.string ⟨#[114,108]⟩,.bool true]) (by simp[results,Tryz.results66,go_sem]) rfl ?_;exact⟨rfl,Ak _ _⟩
 have n3:(op==3)=false:=Bh h3;by_cases h4:op=4
 ·subst h4;go_enter Tryz.func66,Tryz.ntmps66;go_wp2_with fail
  refine Bd (v:=.tuple #[.string ⟨#[108,101]⟩,.bool true]) (by simp[results,Tryz.results66,go_sem]) rfl ?_;exact⟨rfl,Ak _ _⟩
 have n4:(op==4)=false:=Bh h4;by_cases h5:op=5
 ·subst h5;go_enter Tryz.func66,Tryz.ntmps66;go_wp2_with fail
  refine Bd (v:=.tuple #[.string ⟨#[114,108,101,102]⟩,.bool true]) (by simp[results,Tryz.results66,go_sem]) rfl ?_;exact⟨rfl,Ak _ _⟩
 have n5:(op==5)=false:=Bh h5;by_cases h6:op=6
 ·subst h6;go_enter Tryz.func66,Tryz.ntmps66;go_wp2_with fail
  refine Bd (v:=.tuple #[.string ⟨#[114,108,101]⟩,.bool true]) (by simp[results,Tryz.results66,go_sem]) rfl ?_;exact⟨rfl,Ak _ _⟩
 have n6:(op==6)=false:=Bh h6;by_cases h7:op=7
 ·subst h7;go_enter Tryz.func66,Tryz.ntmps66;go_wp2_with fail
  refine Bd (v:=.tuple #[.string ⟨#[114,108,101]⟩,.bool true]) (by simp[results,Tryz.results66,go_sem]) rfl ?_;exact⟨rfl,Ak _ _⟩
 have n7:(op==7)=false:=Bh h7;by_cases h8:op=8
 ·subst h8;go_enter Tryz.func66,Tryz.ntmps66;go_wp2_with fail
  refine Bd (v:=.tuple #[.string ⟨#[]⟩,.bool true]) (by simp[results,Tryz.results66,go_sem]) rfl ?_;exact⟨rfl,Ak _ _⟩
 have n8:(op==8)=false:=Bh h8;by_cases h9:op=9
 ·subst h9;go_enter Tryz.func66,Tryz.ntmps66;go_wp2_with fail
  refine Bd (v:=.tuple #[.string ⟨#[108,101,110]⟩,.bool true]) (by simp[results,Tryz.results66,go_sem]) rfl ?_;exact⟨rfl,Ak _ _⟩
 have n9:(op==9)=false:=Bh h9;by_cases h20:op=20
 ·subst h20;go_enter Tryz.func66,Tryz.ntmps66;go_wp2_with fail
  refine Bd (v:=.tuple #[.string ⟨#[116]⟩,.bool true]) (by simp[results,Tryz.results66,go_sem]) rfl ?_;exact⟨rfl,Ak _ _⟩
 have n20:(op==20)=false:=Bh h20;by_cases h21:op=21
 ·subst h21;go_enter Tryz.func66,Tryz.ntmps66;go_wp2_with fail
  refine Bd (v:=.tuple #[.string ⟨#[101,116]⟩,.bool true]) (by simp[results,Tryz.results66,go_sem]) rfl ?_;exact⟨rfl,Ak _ _⟩
 have n21:(op==21)=false:=Bh h21;have E:Rb op=⟨#[]⟩:=by unfold Rb;rw[if_neg h2,if_neg h3,if_neg h4,if_neg h5,if_neg (by omega),if_neg h8,if_neg h9,if_neg h20,if_neg h21]
 have E2:IN op=false:=by unfold IN;exact Cj (by omega)
 rw[E,E2];clear E E2;go_enter Tryz.func66,Tryz.ntmps66;go_wp2_with fail
 refine Bd (v:=.tuple #[.string ⟨#[]⟩,.bool false]) (by simp[results,Tryz.results66,go_sem]) rfl ?_;exact⟨rfl,Ak _ _⟩
def EV:Int→List Ed→Int
 | n,[]=>n
 | n,x::l=>if 1≤x.1∧x.1≤4 then EV (n+1) l else if x.1=5∧1≤n then EV n l else if 6≤x.1∧x.1≤14∧2≤n then EV (n - 1) l else -1
theorem IU{l:List Ed}{k:Nat}(h:k<l.length):l.drop k=l.getD k (0,0,0)::l.drop (k+1):=by
 rw[List.drop_eq_getElem_cons h,AM,Bf h];rfl
theorem Lu{n:Int}{l:List Ed}{k:Nat}(h:k<l.length)(h1:1≤(l.getD k (0,0,0)).1∧(l.getD k (0,0,0)).1≤4):EV n (l.drop k)=EV (n+1) (l.drop (k+1)):=by
 rw[IU h,EV,if_pos h1]
theorem Tf{n:Int}{l:List Ed}{k:Nat}(h:k<l.length)(h1:(l.getD k (0,0,0)).1=5∧1≤n):EV n (l.drop k)=EV n (l.drop (k+1)):=by
 rw[IU h,EV,if_neg (by omega),if_pos h1]
theorem Rq{n:Int}{l:List Ed}{k:Nat}(h:k<l.length)(h1:6≤(l.getD k (0,0,0)).1∧(l.getD k (0,0,0)).1≤14∧2≤n):EV n (l.drop k)=EV (n - 1) (l.drop (k+1)):=by
 rw[IU h,EV,if_neg (by omega),if_neg (by omega),if_pos h1]
theorem Rk{n:Int}{l:List Ed}{k:Nat}(h:k<l.length)(h1:¬(1≤(l.getD k (0,0,0)).1∧(l.getD k (0,0,0)).1≤4)∧¬((l.getD k (0,0,0)).1=5∧1≤n)∧¬(6≤(l.getD k (0,0,0)).1∧(l.getD k (0,0,0)).1≤14∧2≤n)):EV n (l.drop k)=-1:=by
 rw[IU h,EV,if_neg h1.1,if_neg h1.2.1,if_neg h1.2.2]
theorem bQ(v:Value)(l:List Ed)(w:World)(h:Ax w v l)(hl:l.length≤1000000):
 Calls Tryz.prog 89 #[v] w fun e w'=>(∃m:Int,e=.returned (.tuple #[.int .i64 (EV 0 l),.int .i64 m]))∧Below w.heap.size w w':=by
 obtain⟨a,ac,rfl,ha⟩:=h;have HA:=Aa ha;have L1:=Aa (fun(n:Int) k (h:k<l.length)=>Lu (n:=n) h);have L2:=Aa (fun(n:Int) k (h:k<l.length)=>Tf (n:=n) h);have L3:=Aa (fun(n:Int) k (h:k<l.length)=>Rq (n:=n) h);have L4:=Aa (fun(n:Int) k (h:k<l.length)=>Rk (n:=n) h);have L0:Hid (EV 0 l=EV 0 (l.drop 0)):=Aa (by rw[List.drop_zero]);have LE:Hid (∀n,EV n (l.drop l.length)=n):=Aa (fun n=>by rw[List.drop_length];rfl);clear ha;generalize EV 0 l=RES at*;obtain⟨LS,hLS⟩:∃f:Int→Nat→Int,∀n k,f n k=EV n (l.drop k):=⟨fun n k=>EV n (l.drop k),fun _ _=>rfl⟩;simp only[← hLS]at L1 L2 L3 L4 L0 LE;clear hLS;go_enter Tryz.func89,Tryz.ntmps89;go_wp2_with fail
 go_loopg [4,5,6] l.length (fun fu nv mv c wr=>∃(k:Nat) (n m:Int),k+fu=l.length∧nv=.int .i64 n∧mv=.int .i64 m∧c=.int .i64 k∧Hid (RES=LS n k)∧0≤n∧n≤k∧Hid (Below w.heap.size w wr))
 case atStart=>exact⟨0,0,0,by omega,rfl,rfl,rfl,L0,by omega,by omega,Aa (Ak _ _)⟩
 case round=>
  obtain⟨k,n,m,hk,rfl,rfl,rfl,HI,hn0,hnk,HB⟩:=hrel;by_cases hlt:k<l.length
  ·have z1:(k:Int)<(l.length:Int):=by omega
   obtain⟨b1,o1,rfl,d1,-,-⟩:=HA.out k hlt;have d1:=Af HB.out d1;have Q1:=Aa (L1.out n k hlt);have Q2:=Aa (L2.out n k hlt);have Q3:=Aa (L3.out n k hlt);have Q4:=Aa (L4.out n k hlt);clear L1 L2 L3 L4 L0 LE;generalize (l.getD k (0,0,0)).1=x at*;by_cases h1:1≤x
   ·by_cases h4:x≤4
    ·have E:=Aa (Q1.out ⟨h1,h4⟩);clear Q1 Q2 Q3 Q4;go_wp2_with fail
     all_goals
      go_roundg (l.length - (k+1))
      case measure=>omega
      case rel=>exact⟨k+1,n+1,_,by omega,by simp,rfl,by simp,Aa (by rw[HI.out,E.out]),by omega,by omega,HB⟩
    ·have h4':4<x:=by omega
     by_cases h5:x=5
     ·subst h5;by_cases hn:1≤n
      ·have E:=Aa (Q2.out ⟨rfl,hn⟩);clear Q1 Q2 Q3 Q4;go_wp2_with fail
       all_goals
        go_roundg (l.length - (k+1))
        case measure=>omega
        case rel=>exact⟨k+1,n,_,by omega,rfl,rfl,by simp,Aa (by rw[HI.out,E.out]),by omega,by omega,HB⟩
      ·have hn':n<1:=by omega
       have E:=Aa (Q4.out ⟨by omega,by omega,by omega⟩);clear Q1 Q2 Q3 Q4;go_wp2_with fail
       refine Bd (v:=.tuple #[.int .i64 (-1),.int .i64 (-1)]) (by simp[results,Tryz.results89,go_sem]) rfl ?_;exact⟨⟨_,by rw[HI.out,E.out]⟩,HB.out⟩
     ·have n5:(x==5)=false:=Bh h5;have h6:6≤x:=by omega
      by_cases h14:x≤14
      ·by_cases hn:2≤n
       ·have E:=Aa (Q3.out ⟨h6,h14,hn⟩);clear Q1 Q2 Q3 Q4;go_wp2_with fail
        all_goals
         go_roundg (l.length - (k+1))
         case measure=>omega
         case rel=>exact⟨k+1,n - 1,_,by omega,by simp,rfl,by simp,Aa (by rw[HI.out,E.out]),by omega,by omega,HB⟩
       ·have hn':n<2:=by omega
        have E:=Aa (Q4.out ⟨by omega,by omega,by omega⟩);clear Q1 Q2 Q3 Q4;go_wp2_with fail
        refine Bd (v:=.tuple #[.int .i64 (-1),.int .i64 (-1)]) (by simp[results,Tryz.results89,go_sem]) rfl ?_;exact⟨⟨_,by rw[HI.out,E.out]⟩,HB.out⟩
      ·have h14':14<x:=by omega
       have E:=Aa (Q4.out ⟨by omega,by omega,by omega⟩);clear Q1 Q2 Q3 Q4;go_wp2_with fail
       refine Bd (v:=.tuple #[.int .i64 (-1),.int .i64 (-1)]) (by simp[results,Tryz.results89,go_sem]) rfl ?_;exact⟨⟨_,by rw[HI.out,E.out]⟩,HB.out⟩
   ·have h1':x<1:=by omega
    have n5:(x==5)=false:=Bh (by omega);have h6:x<6:=by omega
    have E:=Aa (Q4.out ⟨by omega,by omega,by omega⟩);clear Q1 Q2 Q3 Q4;go_wp2_with fail
    refine Bd (v:=.tuple #[.int .i64 (-1),.int .i64 (-1)]) (by simp[results,Tryz.results89,go_sem]) rfl ?_;exact⟨⟨_,by rw[HI.out,E.out]⟩,HB.out⟩
  ·have hkk:k=l.length:=by omega
   subst hkk;have E:=Aa (LE.out n);go_wp2_with fail
   refine Bd (v:=.tuple #[.int .i64 n,.int .i64 m]) (by simp[results,Tryz.results89,go_sem]) rfl ?_;exact⟨⟨_,by rw[HI.out,E.out]⟩,HB.out⟩
def Ju(own:Int)(x:Ed):Bool:=if x.1=1 then EF x.2.1 10000 else if x.1=2 then EF x.2.1 own else decide (x.1≠3∧x.1≠4)
def Cl(own:Int)(l:List Ed):Bool:=l.all (Ju own)&&(EV 0 l==1)
theorem Lm{own:Int}{l:List Ed}:Cl own l=true↔(∀x∈l,Ju own x=true)∧EV 0 l=1:=by
 unfold Cl;rw[Ci,List.all_eq_true,beq_iff_eq]
theorem Wj{own:Int}{l:List Ed}{k:Nat}(hk:k<l.length)(h:Ju own (l.getD k (0,0,0))=false):Cl own l=false:=by
 cases hb:Cl own l
 ·rfl
 ·have:=(Lm.1 hb).1 (l.getD k (0,0,0)) (by simp[List.getD,hk]);rw[this]at h;cases h
theorem Wn{own:Int}{l:List Ed}(h:∀k,k<l.length→Ju own (l.getD k (0,0,0))=true):Cl own l=(EV 0 l==1):=by
 unfold Cl;rw[List.all_eq_true.2 (fun x hx=>by
  obtain⟨k,hk,rfl⟩:=Ey hx;have:=h k hk;rwa [AM,Bf hk]at this)]
 rfl
theorem FF(v:Value)(l:List Ed)(own:Int)(w:World)(h:Ax w v l)(hl:l.length≤1000000):
 Calls Tryz.prog 69 #[v,.slice none 0 0,.int .i64 own,.int .i64 0] w fun e w'=>e=.returned (.bool (Cl own l))∧Below w.heap.size w w':=by
 have HLI:=Aa (fun(w':World) (hb:Below w.heap.size w w')=>bQ v l w' (h.below hb) hl);obtain⟨a,ac,rfl,ha⟩:=h;have HA:=Aa ha;have HBAD:Hid (∀k,k<l.length→Ju own (l.getD k (0,0,0))=false→Cl own l=false):=Aa (fun k hk h=>Wj hk h);have HEND:Hid ((∀k,k<l.length→Ju own (l.getD k (0,0,0))=true)→Cl own l=(EV 0 l==1)):=Aa Wn;have HO:Hid (∀x,Ju own x=if x.1=1 then EF x.2.1 10000 else if x.1=2 then EF x.2.1 own else decide (x.1≠3∧x.1≠4)):=Aa (fun x=>rfl);clear ha;generalize Cl own l=RES at*;generalize EV 0 l=LS at*;go_enter Tryz.func69,Tryz.ntmps69;go_wp2_with fail
 go_loopg [9] l.length (fun fu c wr=>∃k:Nat,k+fu=l.length∧c=.int .i64 k∧Hid (∀j,j<k→Ju own (l.getD j (0,0,0))=true)∧Hid (Below w.heap.size w wr))
 case atStart=>exact⟨0,by omega,rfl,Aa (fun j hj=>by omega),Aa (Ak _ _)⟩
 case round=>
  obtain⟨k,hk,rfl,HI,HB⟩:=hrel;by_cases hlt:k<l.length
  ·have z1:(k:Int)<(l.length:Int):=by omega
   obtain⟨b1,o1,rfl,d1,d2,d3⟩:=HA.out k hlt;obtain⟨d1,d2,d3⟩:=JN HB.out d1 d2 d3;have HOK:=Aa (HO.out (l.getD k (0,0,0)));have HBK:=Aa (HBAD.out k hlt);have HNX:Hid (Ju own (l.getD k (0,0,0))=true→∀j,j<k+1→Ju own (l.getD j (0,0,0))=true):=Aa (fun h j hj=>by
    by_cases e:j=k
    ·rw[e];exact h
    ·exact HI.out j (by omega))
   generalize Ju own (l.getD k (0,0,0))=OK at HOK HBK HNX;generalize (l.getD k (0,0,0)).1=x at*;generalize (l.getD k (0,0,0)).2.1=y at*;generalize (l.getD k (0,0,0)).2.2=z at*;by_cases h1:x=1
   ·subst h1;have HB1:=Aa (HB.out.trans ((Ae wr (.cells #[.int .i64 1,.int .i64 y,.int .i64 z] 137)).mono HB.out.size));have HIN:=Aa (MZ y 10000 (wr.alloc (.cells #[.int .i64 1,.int .i64 y,.int .i64 z] 137)));have EO:OK=EF y 10000:=HOK.out.trans (if_pos rfl);cases hx:EF y 10000
    ·rw[hx]at HIN;have E:=Aa (HBK.out (EO.trans hx));clear hx HNX HBK HOK EO;go_wp2_with (go_at_call 65;refine HIN.out.mono ?_;rintro e w2 ⟨rfl,hb2⟩;have HB2:=Aa (HB1.out.trans (hb2.mono HB1.out.size));clear hb2)
     go_ret;exact⟨by rw[E.out];rfl,HB2.out⟩
    ·rw[hx]at HIN;have HNX2:=Aa (HNX.out (EO.trans hx));clear hx HNX HBK HOK EO;go_wp2_with (go_at_call 65;refine HIN.out.mono ?_;rintro e w2 ⟨rfl,hb2⟩;have HB2:=Aa (HB1.out.trans (hb2.mono HB1.out.size));clear hb2)
     go_roundg (l.length - (k+1))
     case measure=>omega
     case rel=>exact⟨k+1,by omega,by simp,HNX2,HB2⟩
   have n1:(x==1)=false:=Bh h1;by_cases h2:x=2
   ·subst h2;have HB1:=Aa (HB.out.trans ((Ae wr (.cells #[.int .i64 2,.int .i64 y,.int .i64 z] 137)).mono HB.out.size));have HIN:=Aa (MZ y own (wr.alloc (.cells #[.int .i64 2,.int .i64 y,.int .i64 z] 137)));have EO:OK=EF y own:=HOK.out.trans (by rw[if_neg (by decide),if_pos rfl]);cases hx:EF y own
    ·rw[hx]at HIN;have E:=Aa (HBK.out (EO.trans hx));clear hx HNX HBK HOK EO;go_wp2_with (go_at_call 65;refine HIN.out.mono ?_;rintro e w2 ⟨rfl,hb2⟩;have HB2:=Aa (HB1.out.trans (hb2.mono HB1.out.size));clear hb2)
     go_ret;exact⟨by rw[E.out];rfl,HB2.out⟩
    ·rw[hx]at HIN;have HNX2:=Aa (HNX.out (EO.trans hx));clear hx HNX HBK HOK EO;go_wp2_with (go_at_call 65;refine HIN.out.mono ?_;rintro e w2 ⟨rfl,hb2⟩;have HB2:=Aa (HB1.out.trans (hb2.mono HB1.out.size));clear hb2)
     go_roundg (l.length - (k+1))
     case measure=>omega
     case rel=>exact⟨k+1,by omega,by simp,HNX2,HB2⟩
   have n2:(x==2)=false:=Bh h2;by_cases h3:x=3
   ·subst h3;have HB1:=Aa (HB.out.trans ((Ae wr (.cells #[.int .i64 3,.int .i64 y,.int .i64 z] 137)).mono HB.out.size));have HIN:=Aa (MZ y 0 (wr.alloc (.cells #[.int .i64 3,.int .i64 y,.int .i64 z] 137)));have EO:OK=false:=HOK.out.trans (by rw[if_neg (by decide),if_neg (by decide)];decide);have hx:EF y 0=false:=by cases hh:EF y 0;rfl;have:=Er.1 hh;omega
    rw[hx]at HIN;have E:=Aa (HBK.out EO);clear hx HNX HBK HOK EO;go_wp2_with (go_at_call 65;refine HIN.out.mono ?_;rintro e w2 ⟨rfl,hb2⟩;have HB2:=Aa (HB1.out.trans (hb2.mono HB1.out.size));clear hb2)
    go_ret;exact⟨by rw[E.out];rfl,HB2.out⟩
   have n3:(x==3)=false:=Bh h3;by_cases h4:x=4
   ·subst h4;have HB1:=Aa (HB.out.trans ((Ae wr (.cells #[.int .i64 4,.int .i64 y,.int .i64 z] 137)).mono HB.out.size));have EO:OK=false:=HOK.out.trans (by rw[if_neg (by decide),if_neg (by decide)];decide);have E:=Aa (HBK.out EO);have hx:EF z 0=false:=by cases hh:EF z 0;rfl;have:=Er.1 hh;omega
    have HIN:=Aa (fun(w':World)=>(by have:=MZ z 0 w';rwa [hx]at this:Calls Tryz.prog 65 #[.int .i64 z,.int .i64 0] w' fun e w2=>e=.returned (.bool false)∧Below w'.heap.size w' w2));have c:=Ar wr (.cells #[.int .i64 4,.int .i64 y,.int .i64 z] 137);have c2:=Ab c 2 _ rfl;clear hx HNX HBK HOK EO c;go_wp2_with fail
    generalize wr.alloc (.cells #[.int .i64 4,.int .i64 y,.int .i64 z] 137)=w1 at*;have f2:∀i:Bk w1,i.1.cell? ⟨wr.heap.size,2,none⟩=some (.int .i64 z):=fun i=>i.cell c2;refine AD (by kernel_rfl) (by kernel_rfl) ?_;repeat (go_big_quiet_step ((go_at_call 65;exact Calls.sub_of (HIN.out _))))
    refine wpQuiet_nil ?_;intro w4 hb4;have HB2:=Aa (HB1.out.trans (hb4.mono HB1.out.size));clear hb4;go_wp2_with fail
    go_ret;exact⟨by rw[E.out];rfl,HB2.out⟩
   have n4:(x==4)=false:=Bh h4;have EO:OK=true:=HOK.out.trans (by rw[if_neg h1,if_neg h2];exact Ck ⟨h3,h4⟩);have HNX2:=Aa (HNX.out EO);have HB2:=Aa (HB.out.trans ((Ae wr (.cells #[.int .i64 x,.int .i64 y,.int .i64 z] 137)).mono HB.out.size));clear HNX HBK HOK EO;go_wp2_with fail
   go_roundg (l.length - (k+1))
   case measure=>omega
   case rel=>exact⟨k+1,by omega,by simp,HNX2,HB2⟩
  ·have hkk:k=l.length:=by omega
   subst hkk;have E:=Aa (HEND.out HI.out);have HLX:=Aa (HLI.out wr HB.out);clear HLI HA HBAD HEND HO;go_wp2_with (go_at_call 89;refine HLX.out.mono ?_;rintro e w2 ⟨⟨mm,rfl⟩,hb2⟩;have HB2:=Aa (HB.out.trans (hb2.mono HB.out.size));clear hb2)
   go_ret;exact⟨by rw[E.out];rfl,HB2.out⟩
structure Li(w wr:World)(c:Array Value)(t:TypeId):Prop where
 below:Below w.heap.size w wr
 blk:wr.heap[w.heap.size]?=some (.cells c t (0,0))
theorem Li.start(w:World)(c:Array Value)(t:TypeId):Li w (w.alloc (.cells c t)) c t:=⟨Ae w _,Ar w _⟩
theorem Li.more{w wr w':World}{c:Array Value}{t:TypeId}(h:Li w wr c t)(hb:Below wr.heap.size wr w'):Li w w' c t:=⟨h.below.trans (hb.mono h.below.size),Ah hb h.blk⟩
structure NV where
 op:Int
 reg:Int
 loc:Int
 e:List Ed
 f:List Ed
 ne:Bool
 tgt:Int
def gU(w:World)(v:Value)(x:NV):Prop:=∃ve vf,v=.agg #[.int .i64 x.op,.int .i64 x.reg,.int .i64 x.loc,ve,vf,.bool x.ne,.int .i64 x.tgt]∧Ax w ve x.e∧Ax w vf x.f
def Bq(op c:Int):Bool:=Bv (Rb op) c
def Ct(x:NV)(regs locs many:Int):Bool:=
 IN x.op&&(if Bq x.op 114=true then EF x.reg regs else x.reg==0)&&(if Bq x.op 108=true then EF x.loc locs else x.loc==0)&&(if Bq x.op 116=true then EF x.tgt many else x.tgt==0)&&
  (if Bq x.op 101=true then Cl regs x.e else x.e.length==0)&&(if Bq x.op 102=true then Cl regs x.f else x.f.length==0)&&(Bq x.op 110 || !x.ne)
theorem Gz{w:World}{b:Nat}{a0 a1 a2 a3 a4 a5 a6:Value}{t:TypeId}{fr:Nat×Nat}(h:w.heap[b]?=some (.cells #[a0,a1,a2,a3,a4,a5,a6] t fr)):
 w.cell? ⟨b,0,none⟩=some a0∧w.cell? ⟨b,1,none⟩=some a1∧w.cell? ⟨b,2,none⟩=some a2∧w.cell? ⟨b,3,none⟩=some a3∧w.cell? ⟨b,4,none⟩=some a4∧w.cell? ⟨b,5,none⟩=some a5∧w.cell? ⟨b,6,none⟩=some a6:=
 ⟨Ab h 0 _ rfl,Ab h 1 _ rfl,Ab h 2 _ rfl,Ab h 3 _ rfl,Ab h 4 _ rfl,Ab h 5 _ rfl,Ab h 6 _ rfl⟩
open Go.RowKit Go.Maps
theorem NU:Keyed Tryz.prog 3:=int_keyed Tryz.underlying3
theorem UD(w:World):(zeroValue 3).run Tryz.prog w=.ok (.int .i64 0) w:=by kernel_rfl
def Mr(k:Int):Lit:=.int .i64 k
theorem Hl(k:Int):WideAt.IsKeyLit (Mr k):=trivial
theorem GR{k l:Int}(h:Mr k=Mr l):k=l:=by unfold Mr at h;cases h;rfl
def Bu(w:World)(b n:Nat)(f:Int→Option Int)(sz:Nat):Prop:=
 ∃D:DataW Unit,w.ownsMap Tryz.prog 3 (plainElem Tryz.prog 3) b n D∧(∀k,has D (Mr k)=(f k).isSome)∧(∀k,D.atKey (Mr k) (.lit (.int .i64 0))=.lit (.int .i64 ((f k).getD 0)))∧Maps.size D=sz
theorem Bu.made(w:World):Bu (w.alloc (.map #[] 0)) w.heap.size 0 (fun _=>none) 0:=
 ⟨.map [],World.ownsMap_made _ _ _ _,fun _=>rfl,fun _=>rfl,rfl⟩
section
variable {w w':World} {b n sz:Nat} {f:Int→Option Int}
theorem Bu.kept(h:Bu w b n f sz){row:Option Nat}(hg:w.grownBy w' row)(hne:some b≠row):Bu w' b n f sz:=by
 obtain⟨D,h1,h2⟩:=h;exact⟨D,h1.kept hg hne,h2⟩
theorem Bu.heap(h:Bu w b n f sz)(he:w'.heap[b]?=w.heap[b]?):Bu w' b n f sz:=by
 obtain⟨D,⟨es,c,h0,h1⟩,h2⟩:=h;exact⟨D,⟨es,c,by rw[he];exact h0,h1⟩,h2⟩
theorem Bu.drew(h:Bu w b n f sz):Bu w.drew b n f sz:=h
theorem Bu.setCell(h:Bu w b n f sz){a:Addr}(ha:b≠a.block)(u:Value):Bu (w.setCell a u) b n f sz:=by
 obtain⟨D,h1,h2⟩:=h;exact⟨D,h1.setCell ha u,h2⟩
theorem Bu.lt(h:Bu w b n f sz):b<w.heap.size:=by obtain⟨D,h1,-⟩:=h;exact h1.lt
theorem Qh{k:Int}(hw:(Lit.int .i64 k).wf=true):keyOf Tryz.prog 3 (.int .i64 k)=some (Mr k):=keyOf_int_mk Tryz.underlying3 hw
theorem Bu.look(h:Bu w b n f sz){k:Int}(hw:(Lit.int .i64 k).wf=true):(Instr.lookup 153 (.map (some b)) (.int .i64 k) false).run Tryz.prog w=.ok (.int .i64 ((f k).getD 0)) w:=by
 obtain⟨D,h1,-,h3,-⟩:=h;obtain⟨c,hr,hat,-⟩:=h1.lookup_int NU Tryz.underlying153 Tryz.underlying3 (UD w) (Qh hw);rw[h3 k]at hat;simp only[DataW.lit.injEq,Lit.int.injEq,true_and]at hat;rw[hr,hat]
variable {ops:Array Oper} {rest:List Oper} {o:Oper} {a:Act} {Q:Exit→Act→World→Prop}
theorem Id (h:Bu w b n f sz) (hg:o.guard=none) {m x:Operand} (hop:o.op=Op.lookup 153 m x true) (hm:a.eval m=.map (some b)) {k:Int} (hx:a.eval x=.int .i64 k) (hw:(Lit.int .i64 k).wf=true)
 (hK:wpList Tryz.prog ops Q rest (a.put o.dst (.tuple #[.int .i64 ((f k).getD 0),.bool (f k).isSome])) w):wpList Tryz.prog ops Q (o::rest) a w:=by
 obtain⟨D,h1,h2,h3,-⟩:=h;refine wpList_lookup_own_ok_int w hg m x 153 hop 3 3 .i64 NU Tryz.underlying153 Tryz.underlying3 (UD w) b n D hm h1 _ (Mr k) hx (Qh hw) fun c hat hwc=>?_;rw[h3 k]at hat;simp only[DataW.lit.injEq,Lit.int.injEq,true_and]at hat;rw[h2 k,← hat];exact hK
theorem Qo (h:Bu w b n f sz) (hg:o.guard=none) {m x:Operand} (hop:o.op=Op.lookup 153 m x false) (hm:a.eval m=.map (some b)) {k:Int} (hx:a.eval x=.int .i64 k) (hw:(Lit.int .i64 k).wf=true)
 (hK:wpList Tryz.prog ops Q rest (a.put o.dst (.int .i64 ((f k).getD 0))) w):wpList Tryz.prog ops Q (o::rest) a w:=by
 obtain⟨D,h1,-,h3,-⟩:=h;refine wpList_lookup_own_int w hg m x 153 hop 3 3 .i64 NU Tryz.underlying153 Tryz.underlying3 (UD w) b n D hm h1 _ (Mr k) hx (Qh hw) fun c hat hwc=>?_;rw[h3 k]at hat;simp only[DataW.lit.injEq,Lit.int.injEq,true_and]at hat;rw[← hat];exact hK
theorem bP (h:Bu w b n f sz) (hg:o.guard=none) {m:Operand} (hop:o.op=Op.call {callee:=Callee.builtin Builtin.len,args:=#[m],argTypes:=#[153]}) (hm:a.eval m=.map (some b))
 (hK:wpList Tryz.prog ops Q rest (a.put o.dst (.int .i64 (sz:Nat))) w):wpList Tryz.prog ops Q (o::rest) a w:=by
 obtain⟨D,h1,-,-,rfl⟩:=h;exact wpList_len_own w hg m 153 hop 3 3 Tryz.underlying153 _ b n D hm h1 hK
theorem Bu.put(h:Bu w b n f sz)(hn:n<maxLen){k v:Int}(hk:(Lit.int .i64 k).wf=true)(hv:(Lit.int .i64 v).wf=true):
 ∃w',(Instr.mapUpdate 153 (.map (some b)) (.int .i64 k) (.int .i64 v)).run Tryz.prog w=.ok () w'∧Bu w' b (n+1) (fun x=>if x=k then some v else f x) (if(f k).isSome then sz else sz+1)∧w.grownBy w' (some b):=by
 obtain⟨D,h1,h2,h3,h4⟩:=h;obtain⟨w',hr,ho,hg⟩:=h1.update NU Tryz.underlying153 hn (Qh hk) (plainElem_int Tryz.underlying3 hv);have ht:=h1.tidy NU;have him:=h1.isMap;refine⟨w',hr,⟨_,ho,fun x=>?_,fun x=>?_,?_⟩,hg⟩
 ·show _=(if x=k then some v else f x).isSome;by_cases e:x=k
  ·rw[if_pos e,e,has_put_same him (Hl k)];rfl
  ·rw[if_neg e,has_put_other (fun q=>e (GR q)),h2]
 ·show _=DataW.lit (Lit.int IntKind.i64 ((if x=k then some v else f x).getD 0));by_cases e:x=k
  ·rw[if_pos e,e,atKey_put_same him (Hl k)];rfl
  ·rw[if_neg e,atKey_put_other (fun q=>e (GR q)),h3]
 ·rw[size_put ht,h2,h4]
theorem QH (h:Bu w b n f sz) (hn:n<maxLen) (hg:o.guard=none) {m x y:Operand} (hop:o.op=Op.mapUpdate 153 m x y) (hm:a.eval m=.map (some b)) {k v:Int} (hx:a.eval x=.int .i64 k) (hy:a.eval y=.int .i64 v)
 (hk:(Lit.int .i64 k).wf=true) (hv:(Lit.int .i64 v).wf=true)
 (hK:∀w',Bu w' b (n+1) (fun x=>if x=k then some v else f x) (if(f k).isSome then sz else sz+1)→w.grownBy w' (some b)→wpList Tryz.prog ops Q rest (a.put o.dst undef) w'):wpList Tryz.prog ops Q (o::rest) a w:=by
 obtain⟨w',hr,ho,hgr⟩:=h.put hn hk hv;refine wpList_plain hg fun K' hK'=>?_;unfold Oper.wp;simp[execOp,hop,hm,hx,hy,hr,Result.andThen];exact hK' _ _ (hK w' ho hgr)
end
def Ih(w:World)(v:Value)(rows:List (List Int)):Prop:=
 ∃a cap,v=.slice a rows.length cap∧∀j,j<rows.length→∃b off u,a=some ⟨b,off,none⟩∧w.cell? ⟨b,off+j,none⟩=some u∧Am w u (rows.getD j [])
theorem Ih.below{w w':World}{v:Value}{rows:List (List Int)}(h:Ih w v rows)(hb:Below w.heap.size w w'):Ih w' v rows:=by
 obtain⟨a,cap,e,h⟩:=h;refine⟨a,cap,e,fun j hj=>?_⟩;obtain⟨b,off,u,e,h1,h2⟩:=h j hj;exact⟨b,off,u,e,Af hb h1,h2.below hb⟩
theorem TB(w:World):Ih w (.slice none 0 0) []:=⟨none,0,rfl,fun j hj=>by simp at hj⟩
theorem BL{w:World}{base:Nat}{e:TypeId}{v:Value}{n:Nat}{xs:List Value}(h:w.ownsRow base e 1 v n xs){j:Nat}(hj:j<n):∃b,v.ownBlock=some b∧(∃cap,v=.slice (some ⟨b,0,none⟩) n cap)∧w.cell? ⟨b,j,none⟩=some (xs.getD j undef):=by
 obtain⟨hl,h⟩:=h;rcases h with⟨rfl,rfl⟩ | ⟨g,cap,cur,rfl,hb,hg,hn,hc,hs,ht⟩
 ·omega
 ·refine⟨g,rfl,⟨cap,rfl⟩,Ab hg j _ ?_⟩;have hjx:j<xs.length:=by omega
  rw[AM,Bf hjx,Option.getD_some,← Bf hjx,← ht,List.getElem?_take,if_pos (by omega)];simp
theorem DU{w:World}{base:Nat}{v:Value}{l:List Int}(h:w.ownsRow base 3 1 v l.length (l.map (Value.int .i64))):Am w v l:=by
 obtain⟨hl,h'⟩:=h;rcases h' with⟨rfl,e⟩ | ⟨g,cap,cur,rfl,hb,hg,hn,hc,hs,ht⟩
 ·obtain rfl:l=[]:=List.eq_nil_of_length_eq_zero e;exact BM w
 ·refine⟨some ⟨g,0,none⟩,cap,rfl,fun j hj=>⟨g,0,rfl,?_⟩⟩;obtain⟨b,e1,-,e2⟩:=BL (w:=w) (base:=base) (e:=3) (v:=.slice (some ⟨g,0,none⟩) l.length cap) (n:=l.length) (xs:=l.map (Value.int .i64)) ⟨hl,.inr ⟨g,cap,cur,rfl,hb,hg,hn,hc,hs,ht⟩⟩ hj;obtain rfl:g=b:=by simpa[Value.ownBlock]using e1
  rw[Nat.zero_add,e2];simp[hj]
structure BS(w:World)(base:Nat)(ov:Value)(rows:List (List Int))(vals:List Value):Prop where
 len:vals.length=rows.length
 out:w.ownsRow base 22 1 ov rows.length vals
 inn:∀j,j<rows.length→w.ownsRow base 3 1 (vals.getD j undef) (rows.getD j []).length ((rows.getD j []).map (Value.int .i64))
 apart:∀j k,j≠k→j<rows.length→k<rows.length→∀q,(vals.getD j undef).ownBlock=some q→(vals.getD k undef).ownBlock≠some q
 offO:∀j,j<rows.length→∀q,ov.ownBlock=some q→(vals.getD j undef).ownBlock≠some q
theorem Pw(w:World)(base:Nat):BS w base (.slice none 0 0) [] []:=
 ⟨rfl,CO _ _ _ _,fun j hj=>by simp at hj,fun j k _ hj=>by simp at hj,fun j hj=>by simp at hj⟩
section
variable {w w':World} {base:Nat} {ov:Value} {rows:List (List Int)} {vals:List Value}
theorem BS.frm(h:BS w base ov rows vals){F:Nat→Prop}(hf:Bn F w w')(h1:∀q,ov.ownBlock=some q→¬F q)(h2:∀j,j<rows.length→∀q,(vals.getD j undef).ownBlock=some q→¬F q):BS w' base ov rows vals:=
 ⟨h.len,Al h.out hf h1,fun j hj=>Al (h.inn j hj) hf (h2 j hj),h.apart,h.offO⟩
theorem BS.more(h:BS w base ov rows vals)(hb:Below w.heap.size w w'):BS w' base ov rows vals:=
 h.frm (F:=fun _=>False) (Df hb _) (fun _ _=>id) (fun _ _ _ _=>id)
theorem BS.at(h:BS w base ov rows vals):Ih w ov rows:=by
 have hout:=h.out;obtain⟨hl,h'⟩:=hout;rcases h' with⟨rfl,e⟩ | ⟨g,cap,cur,rfl,hb,hg,hn,hc,hs,ht⟩
 ·obtain rfl:rows=[]:=List.eq_nil_of_length_eq_zero e;exact TB w
 ·refine⟨some ⟨g,0,none⟩,cap,rfl,fun j hj=>⟨g,0,vals.getD j undef,rfl,?_,DU (h.inn j hj)⟩⟩;obtain⟨b,e1,-,e2⟩:=BL h.out hj;obtain rfl:g=b:=by simpa[Value.ownBlock]using e1
  rw[Nat.zero_add,e2]
theorem Ei{α:Type}(l:List α)(x z:α)(j:Nat)(h:j≤l.length):(l++[x]).getD j z=if j<l.length then l.getD j z else x:=by
 simp only[AM];by_cases hj:j<l.length
 ·rw[if_pos hj,List.getElem?_append_left hj]
 ·obtain rfl:j=l.length:=by omega
  rw[if_neg hj];simp
theorem BS.push (h:BS w base ov rows vals) {nv:Value} {row:List Int} {g cap:Nat} (hg:w.grownBy w' ov.ownBlock) (hor:ov.ownBlock=some g∨g=w.heap.size)
 (hown:w'.ownsRow base 22 1 (.slice (some ⟨g,0,none⟩) (rows.length+1) cap) (rows.length+1) (vals++[nv]))
 (hn:w.ownsRow base 3 1 nv row.length (row.map (Value.int .i64))) (hn1:∀q,nv.ownBlock=some q→ov.ownBlock≠some q) (hn2:∀j,j<rows.length→∀q,nv.ownBlock=some q→(vals.getD j undef).ownBlock≠some q):
 BS w' base (.slice (some ⟨g,0,none⟩) (rows.length+1) cap) (rows++[row]) (vals++[nv]):=by
 have hlen:=h.len;have hv:∀j,j≤rows.length→(vals++[nv]).getD j undef=if j<rows.length then vals.getD j undef else nv:=fun j hj=>by rw[Ei _ _ _ _ (by omega),hlen]
 have hr:∀j,j≤rows.length→(rows++[row]).getD j []=if j<rows.length then rows.getD j [] else row:=fun j hj=>Ei _ _ _ _ hj
 have hol:∀j,j<rows.length→∀q,(vals.getD j undef).ownBlock=some q→q<w.heap.size:=fun j hj q hq=>((h.inn j hj).lt q hq).2;have key:∀(x:Value) (l:List Int),w.ownsRow base 3 1 x l.length (l.map (Value.int .i64))→(∀q,x.ownBlock=some q→ov.ownBlock≠some q)→w'.ownsRow base 3 1 x l.length (l.map (Value.int .i64)):=fun x l hx hno=>by
  refine hx.kept hg ?_;rcases e:x.ownBlock with _ | q
  ·exact .inl rfl
  ·exact .inr (fun e2=>hno q e e2.symm)
 have hofg:∀q x,Value.ownBlock x=some q→(∀q,x.ownBlock=some q→ov.ownBlock≠some q)→q<w.heap.size→q≠g:=fun q x hq hno hlt e=>by
  subst e;rcases hor with e2 | e2
  ·exact hno _ hq e2
  ·omega
 refine⟨by simp[hlen],by simpa using hown,fun j hj=>?_,fun j k hjk hj hk q hq=>?_,fun j hj q hq=>?_⟩
 ·simp at hj;rw[hv j (by omega),hr j (by omega)];by_cases e:j<rows.length
  ·rw[if_pos e,if_pos e];exact key _ _ (h.inn j e) (fun q hq e2=>h.offO j e q e2 hq)
  ·rw[if_neg e,if_neg e];exact key _ _ hn hn1
 ·simp at hj hk;rw[hv j (by omega)]at hq;rw[hv k (by omega)];by_cases e1:j<rows.length
  ·rw[if_pos e1]at hq;by_cases e2:k<rows.length
   ·rw[if_pos e2];exact h.apart j k hjk e1 e2 q hq
   ·rw[if_neg e2];exact fun e3=>hn2 j e1 q e3 hq
  ·rw[if_neg e1]at hq;rw[if_pos (by omega)];exact hn2 k (by omega) q hq
 ·simp at hj;have hq':g=q:=by simpa[Value.ownBlock]using hq
  subst hq';rw[hv j (by omega)];by_cases e1:j<rows.length
  ·rw[if_pos e1];exact fun e2=>hofg _ _ e2 (fun q hq e3=>h.offO j e1 q e3 hq) (hol j e1 _ e2) rfl
  ·rw[if_neg e1];exact fun e2=>hofg _ _ e2 hn1 (hn.lt _ e2).2 rfl
theorem BS.grow (h:BS w base ov rows vals) {k:Nat} (hk:k<rows.length) {x:Int} {m g cap:Nat} (hm:(rows.getD k []).length=m) (hg:w.grownBy w' (vals.getD k undef).ownBlock) (hor:(vals.getD k undef).ownBlock=some g∨g=w.heap.size)
 (hown:w'.ownsRow base 3 1 (.slice (some ⟨g,0,none⟩) (m+1) cap) (m+1) ((rows.getD k []).map (Value.int .i64)++[.int .i64 x])):
 ∃ob oc,ov=.slice (some ⟨ob,0,none⟩) rows.length oc∧(∃u,w'.cell? ⟨ob,k,none⟩=some u)∧w'.frozen? ⟨ob,k,none⟩=false∧base≤ob∧
  BS (w'.setCell ⟨ob,k,none⟩ (.slice (some ⟨g,0,none⟩) (m+1) cap)) base ov (rows.modify k (·++[x])) (vals.set k (.slice (some ⟨g,0,none⟩) (m+1) cap)):=by
 subst hm;have hlen:=h.len;have hout:w'.ownsRow base 22 1 ov rows.length vals:=by
  refine h.out.kept hg ?_;rcases e:ov.ownBlock with _ | q
  ·exact .inl rfl
  ·exact .inr (fun e2=>h.offO k hk q e e2.symm)
 have holt:∀q,ov.ownBlock=some q→q<w.heap.size:=fun q hq=>(h.out.lt q hq).2;have hkeep:∀j,j<rows.length→j≠k→w'.ownsRow base 3 1 (vals.getD j undef) (rows.getD j []).length ((rows.getD j []).map (Value.int .i64)):=fun j hj hjk=>by
  refine(h.inn j hj).kept hg ?_;rcases e:(vals.getD j undef).ownBlock with _ | q
  ·exact .inl rfl
  ·exact .inr (fun e2=>h.apart j k hjk hj hk q e e2.symm)
 obtain⟨hxl,h'⟩:=hout;rcases h' with⟨-,e⟩ | ⟨ob,oc,cur,rfl,hob,hgb,hn,hc,hs,ht⟩
 ·omega
 have hobg:ob≠g:=fun e=>by
  subst e;rcases hor with e2 | e2
  ·exact h.offO k hk ob rfl e2
  ·have:=holt ob rfl;omega
 have hvs:∀j,(vals.set k (.slice (some ⟨g,0,none⟩) ((rows.getD k []).length+1) cap)).getD j undef=if j=k then .slice (some ⟨g,0,none⟩) ((rows.getD k []).length+1) cap else vals.getD j undef:=fun j=>GW _ _ _ _ _ (by omega)
 have hrs:∀j,j<rows.length→(rows.modify k (·++[x])).getD j []=if j=k then rows.getD k []++[x] else rows.getD j []:=fun j hj=>by
  simp only[AM,List.getElem?_modify];by_cases e:j=k
  ·subst e;simp[Bf hj]
  ·have e':¬k=j:=fun e2=>e e2.symm;simp[e,e']
 have hf:Bn (fun q=>q=ob) w' (w'.setCell ⟨ob,k,none⟩ (.slice (some ⟨g,0,none⟩) ((rows.getD k []).length+1) cap)):=(Bn.refl (fun q=>q=ob) w').setCell (p:=⟨ob,k,none⟩) (fun _=>rfl) _;have hgk:k<cur.size:=by omega
 refine⟨ob,oc,rfl,⟨_,Ab hgb k cur[k] (Array.getElem?_eq_getElem hgk)⟩,Ag hgb k,hob,⟨by simp[hlen],?_,fun j hj=>?_,fun j l hjl hj hl q hq=>?_,fun j hj q hq=>?_⟩⟩
 ·refine⟨by simpa using hxl,.inr ⟨ob,oc,cur.setIfInBounds k (.slice (some ⟨g,0,none⟩) ((rows.getD k []).length+1) cap),by simp,hob,?_,by simpa using hn,hc,by simpa using hs,?_⟩⟩
  ·rw[Ac hgb]
  ·rw[← ht,Array.toList_setIfInBounds,List.length_modify,← List.take_set]
 ·simp at hj;rw[hvs j,hrs j hj];by_cases e:j=k
  ·rw[if_pos e,if_pos e];have:=Al hown hf (fun q hq e2=>hobg (by simp[Value.ownBlock]at hq;omega));simpa using this
  ·rw[if_neg e,if_neg e];exact Al (hkeep j hj e) hf (fun q hq e2=>h.offO j hj ob rfl (by rw[hq,e2]))
 ·simp at hj hl;have hng:∀i,i<rows.length→i≠k→(vals.getD i undef).ownBlock≠some g:=fun i hi hik e2=>by
   rcases hor with e3 | e3
   ·exact h.apart i k hik hi hk g e2 e3
   ·have:=((h.inn i hi).lt g e2).2;omega
  rw[hvs j]at hq;rw[hvs l];by_cases e1:j=k
  ·rw[if_pos e1]at hq;have hq':g=q:=by simpa[Value.ownBlock]using hq
   subst hq';rw[if_neg (by omega)];exact hng l hl (by omega)
  ·rw[if_neg e1]at hq;by_cases e2:l=k
   ·rw[if_pos e2];intro e3;have hq':g=q:=by simpa[Value.ownBlock]using e3
    subst hq';exact hng j hj e1 hq
   ·rw[if_neg e2];exact h.apart j l hjl hj hl q hq
 ·simp at hj;have hq':ob=q:=by simpa[Value.ownBlock]using hq
  subst hq';rw[hvs j];by_cases e1:j=k
  ·rw[if_pos e1];intro e3;exact hobg (by simp[Value.ownBlock]at e3;omega)
  ·rw[if_neg e1];exact h.offO j hj ob rfl
end
theorem Bp{w:World}{base:Nat}{e:TypeId}{size:Nat}{v:Value}{n:Nat}{xs:List Value}(h:w.ownsRow base e size v n xs):∃a c,v=.slice a n c:=by
 rcases h.2 with⟨rfl,e⟩ | ⟨g,cap,cur,rfl,-⟩
 ·exact⟨none,0,by rw[e]⟩
 ·exact⟨_,cap,rfl⟩
theorem Nk{w w':World}{base:Nat}{e:TypeId}{size:Nat}{v:Value}{n:Nat}{xs:List Value}(h:w.ownsRow base e size v n xs)(hb:Below w.heap.size w w'):w'.ownsRow base e size v n xs:=Al (F:=fun _=>False) h (Df hb _) (fun _ _=>id)
theorem YM{w:World}{base:Nat}{e:TypeId}{g n cap:Nat}{xs:List Value}(h:w.ownsRow base e 1 (.slice (some ⟨g,0,none⟩) n cap) n xs){i:Nat}(_hi:i<n)(u:Value):
 (w.setCell ⟨g,i,none⟩ u).ownsRow base e 1 (.slice (some ⟨g,0,none⟩) n cap) n (xs.set i u)∧w.frozen? ⟨g,i,none⟩=false:=by
 obtain⟨hl,h'⟩:=h;rcases h' with⟨e',-⟩ | ⟨g',cap',cur,e',hb,hg,hn,hc,hs,ht⟩
 ·cases e'
 ·simp only[Value.slice.injEq,Option.some.injEq,Addr.mk.injEq,and_true,true_and]at e';obtain⟨rfl,rfl⟩:=e';refine⟨⟨by rw[List.length_set];exact hl,.inr ⟨g,cap,cur.setIfInBounds i u,rfl,hb,?_,hn,hc,by simpa using hs,?_⟩⟩,Ag hg i⟩
  ·rw[Ac hg]
  ·rw[← ht,Array.toList_setIfInBounds,← List.take_set]
theorem CA{w wr w':World}(h:Below w.heap.size w wr){e:TypeId}{size:Nat}{v:Value}{m:Nat}{xs:List Value}{o:Obj}(ho:wr.ownsRow w.heap.size e size v m xs)(hg:(wr.alloc o).grownBy w' v.ownBlock):Below w.heap.size w w':=
 (h.alloc h.size o).grown hg (by have:=h.size;simp;omega) (fun k hk=>(ho.lt k hk).1)
def AW(base:Nat)(w:World)(v:Value)(l:List Int):Prop:=w.ownsRow base 3 1 v l.length (l.map (Value.int .i64))
theorem AW.cell{base:Nat}{w:World}{g cap:Nat}{l:List Int}(h:AW base w (.slice (some ⟨g,0,none⟩) l.length cap) l){j:Nat}(hj:j<l.length):w.cell? ⟨g,j,none⟩=some (.int .i64 (l.getD j 0)):=by
 have:=World.ownsRow.cellAt h j (by omega);rw[this];simp[AM,hj]
theorem AW.form{base:Nat}{w:World}{v:Value}{l:List Int}(h:AW base w v l)(hn:0<l.length):∃g cap,v=.slice (some ⟨g,0,none⟩) l.length cap∧base≤g∧g<w.heap.size:=World.ownsRow.form h hn
theorem AW.ints{base:Nat}{w:World}{v:Value}{l:List Int}(h:AW base w v l):Am w v l:=DU h
theorem AW.more{base:Nat}{w w':World}{v:Value}{l:List Int}(h:AW base w v l)(hb:Below w.heap.size w w'):AW base w' v l:=Nk h hb
theorem AW.set{base:Nat}{w:World}{g cap:Nat}{l:List Int}(h:AW base w (.slice (some ⟨g,0,none⟩) l.length cap) l){j:Nat}(hj:j<l.length)(x:Int):
 AW base (w.setCell ⟨g,j,none⟩ (.int .i64 x)) (.slice (some ⟨g,0,none⟩) l.length cap) (l.set j x)∧w.frozen? ⟨g,j,none⟩=false:=by
 obtain⟨h1,h2⟩:=YM (e:=3) h hj (.int .i64 x);refine⟨?_,h2⟩;unfold AW;rw[List.length_set,List.map_set];exact h1
theorem AW.pop{base:Nat}{w:World}{g cap m:Nat}{l:List Int}(h:AW base w (.slice (some ⟨g,0,none⟩) (m+1) cap) l)(hm:l.length=m+1):AW base w (.slice (some ⟨g,0,none⟩) m cap) (l.take m):=by
 unfold AW at h ⊢;rw[hm]at h;have hl:(l.take m).length=m:=by rw[List.length_take];omega
 rw[hl];refine ownsRow_pop (last:=(l.drop m).map (Value.int .i64)) (by simp;omega) ?_;rw[← Ec,List.take_append_drop];exact h
theorem AW.nil(base:Nat)(w:World):AW base w (.slice none 0 0) []:=CO _ _ _ _
def Xm(mod:Int)(own s:List Int)(x:Ed):List Int:=
 if x.1=1 then s++[x.2.1 % mod] else if x.1=2 then s++[own.getD x.2.1.toNat 0] else if x.1=5 then s.set (s.length - 1) (Hr (s.getD (s.length - 1) 0==0))
 else(s.set (s.length - 2) (Jv x.1 (s.getD (s.length - 2) 0) (s.getD (s.length - 1) 0) mod)).take (s.length - 1)
def Xj(mod:Int)(own:List Int):List Int→List Ed→List Int
 | s,[]=>s
 | s,x::l=>Xj mod own (Xm mod own s x) l
def ES(mod:Int)(own:List Int)(l:List Ed):Int:=if Cl (own.length:Int) l=true then(Xj mod own [] l).getD 0 0 else 0
theorem SF{mod:Int}{own s:List Int}{l:List Ed}{k:Nat}(h:k<l.length):Xj mod own s (l.drop k)=Xj mod own (Xm mod own s (l.getD k (0,0,0))) (l.drop (k+1)):=by rw[IU h,Xj]
theorem Me{s:List Int}{m x:Int}(h:Em s m=true)(hx:0≤x∧x<m):Em (s++[x]) m=true:=by
 refine DQ.2 fun y hy=>?_;rcases CJ.1 hy with hy | hy
 ·exact(DQ.1 h) y hy
 ·rw[Ds.1 hy];exact hx
theorem Fm{s:List Int}{m:Int}(h:Em s m=true){j:Nat}(hj:j<s.length):0≤s.getD j 0∧s.getD j 0<m:=(DQ.1 h) _ (by simp[List.getD,hj])
theorem Kw{s:List Int}{m x:Int}(h:Em s m=true)(hx:0≤x∧x<m)(j:Nat):Em (s.set j x) m=true:=by
 refine DQ.2 fun y hy=>?_;rcases List.mem_or_eq_of_mem_set hy with hy | rfl
 ·exact(DQ.1 h) y hy
 ·exact hx
theorem VT{s:List Int}{m:Int}(h:Em s m=true)(j:Nat):Em (s.take j) m=true:=DQ.2 fun y hy=>(DQ.1 h) y (List.mem_of_mem_take hy)
theorem aO(b:Bool){m:Int}(hm:2≤m):0≤Hr b∧Hr b<m:=by cases b <;> simp[Hr] <;> omega
structure Jw(mod:Int)(own:List Int)(s:List Int)(l:List Ed)(k:Nat):Prop where
 lie:EV (s.length:Int) (l.drop k)=1
 all:Em s mod=true
theorem Jw.cases{mod:Int}{own s:List Int}{l:List Ed}{k:Nat}(h:Jw mod own s l k)(hk:k<l.length)(ho:Ju (own.length:Int) (l.getD k (0,0,0))=true):
 ((l.getD k (0,0,0)).1=1∧0≤(l.getD k (0,0,0)).2.1∧(l.getD k (0,0,0)).2.1<10000)∨((l.getD k (0,0,0)).1=2∧0≤(l.getD k (0,0,0)).2.1∧(l.getD k (0,0,0)).2.1<(own.length:Int))∨((l.getD k (0,0,0)).1=5∧1≤s.length)∨(6≤(l.getD k (0,0,0)).1∧(l.getD k (0,0,0)).1≤14∧2≤s.length):=by
 have hl:=h.lie;unfold Ju at ho;by_cases h1:(l.getD k (0,0,0)).1=1
 ·rw[if_pos h1]at ho;exact .inl ⟨h1,Er.1 ho⟩
 rw[if_neg h1]at ho;by_cases h2:(l.getD k (0,0,0)).1=2
 ·rw[if_pos h2]at ho;exact .inr (.inl ⟨h2,Er.1 ho⟩)
 rw[if_neg h2,EU]at ho;by_cases h3:(l.getD k (0,0,0)).1=5∧1≤(s.length:Int)
 ·exact .inr (.inr (.inl ⟨h3.1,by omega⟩))
 by_cases h4:6≤(l.getD k (0,0,0)).1∧(l.getD k (0,0,0)).1≤14∧2≤(s.length:Int)
 ·exact .inr (.inr (.inr ⟨h4.1,h4.2.1,by omega⟩))
 rw[Rk hk ⟨by omega,h3,h4⟩]at hl;omega
theorem dD{mod:Int}{own s:List Int}{x:Ed}(h:x.1=1):Xm mod own s x=s++[x.2.1 % mod]:=by unfold Xm;rw[if_pos h]
theorem cZ{mod:Int}{own s:List Int}{x:Ed}(h:x.1=2):Xm mod own s x=s++[own.getD x.2.1.toNat 0]:=by unfold Xm;rw[if_neg (by omega),if_pos h]
theorem cV{mod:Int}{own s:List Int}{x:Ed}(h:x.1=5):Xm mod own s x=s.set (s.length - 1) (Hr (s.getD (s.length - 1) 0==0)):=by unfold Xm;rw[if_neg (by omega),if_neg (by omega),if_pos h]
theorem cQ{mod:Int}{own s:List Int}{x:Ed}(h:6≤x.1):Xm mod own s x=(s.set (s.length - 2) (Jv x.1 (s.getD (s.length - 2) 0) (s.getD (s.length - 1) 0) mod)).take (s.length - 1):=by unfold Xm;rw[if_neg (by omega),if_neg (by omega),if_neg (by omega)]
theorem Jw.next{mod:Int}{own s:List Int}{l:List Ed}{k:Nat}(hm:2≤mod)(hown:Em own mod=true)(h:Jw mod own s l k)(hk:k<l.length)(ho:Ju (own.length:Int) (l.getD k (0,0,0))=true):Jw mod own (Xm mod own s (l.getD k (0,0,0))) l (k+1):=by
 have hl:=h.lie;rcases h.cases hk ho with⟨h1,h2,h3⟩ | ⟨h1,h2,h3⟩ | ⟨h1,h2⟩ | ⟨h1,h2,h3⟩
 ·rw[dD h1];rw[Lu hk (by omega)]at hl;exact⟨by rw[Bs];simpa using hl,Me h.all ⟨Int.emod_nonneg _ (by omega),Int.emod_lt_of_pos _ (by omega)⟩⟩
 ·rw[cZ h1];rw[Lu hk (by omega)]at hl;exact⟨by rw[Bs];simpa using hl,Me h.all (Fm hown (by omega))⟩
 ·rw[cV h1];rw[Tf hk (by omega)]at hl;exact⟨by rw[List.length_set];exact hl,Kw h.all (aO _ hm) _⟩
 ·rw[cQ h1];rw[Rq hk (by omega)]at hl;refine⟨?_,VT (Kw h.all (aJ hm) _) _⟩;rw[List.length_take,List.length_set,Nat.min_eq_left (by omega)];rw[← hl];congr 1;omega
theorem Jw.start{mod:Int}{own:List Int}{l:List Ed}(h:Cl (own.length:Int) l=true):Jw mod own [] l 0:=⟨(Lm.1 h).2,rfl⟩
theorem Jw.len{mod:Int}{own s:List Int}{l:List Ed}(h:Jw mod own s l l.length):s.length=1:=by
 have:=h.lie;rw[List.drop_length]at this;have:(s.length:Int)=1:=this;omega
theorem Yi{mod:Int}{own:List Int}{l:List Ed}(hm:2≤mod)(hown:Em own mod=true)(hc:∀k,k<l.length→Ju (own.length:Int) (l.getD k (0,0,0))=true):∀(d k:Nat) (s:List Int),k+d=l.length→Jw mod own s l k→(Xj mod own s (l.drop k)).length=1∧Em (Xj mod own s (l.drop k)) mod=true
 | 0,k,s,hk,h=>by
  obtain rfl:k=l.length:=by omega
  rw[List.drop_length];exact⟨h.len,h.all⟩
 | d+1,k,s,hk,h=>by
  rw[SF (by omega)];exact Yi hm hown hc d (k+1) _ (by omega) (h.next hm hown (by omega) (hc k (by omega)))
theorem Kh{own:Int}{l:List Ed}(h:Cl own l=true){k:Nat}(hk:k<l.length):Ju own (l.getD k (0,0,0))=true:=(Lm.1 h).1 _ (by simp[List.getD,hk])
theorem Qj{mod:Int}{own:List Int}{l:List Ed}(hm:2≤mod)(hown:Em own mod=true):0≤ES mod own l∧ES mod own l<mod:=by
 unfold ES;split
 ·rename_i h;obtain⟨h1,h2⟩:=Yi hm hown (fun k hk=>Kh h hk) l.length 0 [] (by omega) (Jw.start h);rw[List.drop_zero]at h1 h2;exact Fm h2 (by omega)
 ·omega
theorem XO{w:World}{base:Nat}{e:TypeId}{size n c:Nat}{a:Option Addr}{xs:List Value}(h:w.ownsRow base e size (.slice a n c) n xs):n≤c∧c≤9223372036854775807:=by
 rcases h.2 with⟨e1,h0⟩ | ⟨g,cap,cur,e1,-,-,h1,h2,-⟩
 ·cases e1;omega
 ·cases e1;unfold maxLen at h2;omega
theorem Zp(v ov:Value)(l:List Ed)(own:List Int)(mod:Int)(w:World)(h:Ax w v l)(ho:Am w ov own)(hl:l.length≤1000000)(hol:own.length≤1000000)(hm:2≤mod∧mod≤16)(hown:Em own mod=true):
 Calls Tryz.prog 86 #[v,.int .i64 mod,ov,.slice none 0 0,.slice none 0 0] w fun r w'=>r=.returned (.tuple #[.int .i64 (ES mod own l),.bool (Cl (own.length:Int) l)])∧Below w.heap.size w w':=by
 obtain⟨i0,hi0,hz0,hz1,hz2⟩:=CE Tryz.info3;have HAL:=Aa (fun(w':World) (hb:Below w.heap.size w w')=>(by have:=Qw ov own mod w' (ho.below hb) hol;rwa [hown]at this:Calls Tryz.prog 39 #[ov,.int .i64 mod] w' fun e w2=>e=.returned (.bool true)∧Below w'.heap.size w' w2));have HAN:=Aa (fun(w':World)=>(by exact Qw (.slice none 0 0) [] mod w' (BM w') (by simp):Calls Tryz.prog 39 #[.slice none 0 0,.int .i64 mod] w' fun e w2=>e=.returned (.bool true)∧Below w'.heap.size w' w2));have HCO:=Aa (fun(w':World) (hb:Below w.heap.size w w')=>FF v l (own.length:Int) w' (h.below hb) hl);have HTR:=Aa Sf;have HTW:=Aa eM;obtain⟨a,ac,rfl,ha⟩:=h;have HA:=Aa ha;obtain⟨oa,oc,rfl,hoc⟩:=ho;have HOC:=Aa hoc;have HOW:=Aa hown;clear ha hoc;have nm:(mod==0)=false:=Bh (by omega);cases hc:Cl (own.length:Int) l
 ·have E:ES mod own l=0:=by unfold ES;rw[hc];rfl
  rw[E];rw[hc]at HCO;clear E hc hown;go_enter Tryz.func86,Tryz.ntmps86;go_wp2_with (first
   | (go_at_call_of 39 (Value.slice oa own.length oc);refine(HAL.out _ (Ak _ _)).mono ?_;rintro e1 w1 ⟨rfl,hb1⟩;have B1:=Aa hb1;clear hb1)
   | (go_at_call 39;refine(HAN.out _).mono ?_;rintro e2 w2 ⟨rfl,hb2⟩;have B2:=Aa (B1.out.trans (hb2.mono B1.out.size));clear hb2))
  go_loopg [12,13] 0 (fun fu rv c wr=>rv=.slice none 0 0∧c=.int .i64 0∧Hid (Below w.heap.size w wr))
  case atStart=>exact⟨rfl,rfl,B2⟩
  case round=>
   clear B1 B2;obtain⟨rfl,rfl,B3⟩:=hrel;go_wp2_with (go_at_call 69;refine(HCO.out _ B3.out).mono ?_;rintro e4 w4 ⟨rfl,hb4⟩;have B4:=Aa (B3.out.trans (hb4.mono B3.out.size));clear hb4)
   refine Bd (v:=.tuple #[.int .i64 0,.bool false]) (by simp[results,Tryz.results86,go_sem]) rfl ?_;exact⟨rfl,B4.out⟩
 ·have E:ES mod own l=(Xj mod own [] l).getD 0 0:=by unfold ES;rw[hc];rfl
  rw[E];rw[hc]at HCO;clear E;have HOP:=Aa (fun k (hk:k<l.length)=>Kh hc hk);have HCS:=Aa (fun(s:List Int) k (h:Jw mod own s l k) (hk:k<l.length)=>h.cases hk (Kh hc hk));have HNX:=Aa (fun(s:List Int) k (h:Jw mod own s l k) (hk:k<l.length)=>h.next hm.1 HOW.out hk (Kh hc hk));have HST:=Aa (fun(s:List Int) k (hk:k<l.length)=>SF (mod:=mod) (own:=own) (s:=s) hk);have EV0:Hid (Jw mod own [] l 0):=Aa (Jw.start hc);obtain⟨RES,hRES⟩:∃z,(Xj mod own [] l).getD 0 0=z:=⟨_,rfl⟩;have R0:Hid (RES=(Xj mod own [] (l.drop 0)).getD 0 0):=Aa (by rw[List.drop_zero,hRES]);rw[hRES];clear hRES hc hown;go_enter Tryz.func86,Tryz.ntmps86;go_wp2_with (first
   | (go_at_call_of 39 (Value.slice oa own.length oc);refine(HAL.out _ (Ak _ _)).mono ?_;rintro e1 w1 ⟨rfl,hb1⟩;have B1:=Aa hb1;clear hb1)
   | (go_at_call 39;refine(HAN.out _).mono ?_;rintro e2 w2 ⟨rfl,hb2⟩;have B2:=Aa (B1.out.trans (hb2.mono B1.out.size));clear hb2))
  go_loopg [12,13] 0 (fun fu rv c wr=>rv=.slice none 0 0∧c=.int .i64 0∧Hid (Below w.heap.size w wr))
  case atStart=>exact⟨rfl,rfl,B2⟩
  case round=>
   clear B1 B2;obtain⟨rfl,rfl,B3⟩:=hrel;go_wp2_with (go_at_call 69;refine(HCO.out _ B3.out).mono ?_;rintro e4 w4 ⟨rfl,hb4⟩;have B4:=Aa (B3.out.trans (hb4.mono B3.out.size));clear hb4)
   go_loopg [14,15] l.length (fun fu sv c wr=>∃(k:Nat) (s:List Int),k+fu=l.length∧c=.int .i64 k∧Hid (AW w4.heap.size wr sv s)∧s.length≤k∧Hid (Jw mod own s l k)∧Hid (RES=(Xj mod own s (l.drop k)).getD 0 0)∧Hid (Below w4.heap.size w4 wr))
   case atStart=>exact⟨0,[],by omega,rfl,Aa (AW.nil _ _),by simp,EV0,R0,Aa (Ak _ _)⟩
   case round=>
    clear EV0 R0;obtain⟨k,s,hk,rfl,HO,hsk,HE,HR,HB⟩:=hrel;obtain⟨sa,sc,rfl⟩:=Bp HO.out;by_cases hlt:k<l.length
    ·have z1:(k:Int)<(l.length:Int):=by omega
     obtain⟨b1,o1,rfl,d1,d2,d3⟩:=HA.out k hlt;have B5:=Aa (B4.out.trans (HB.out.mono B4.out.size));obtain⟨d1,d2,d3⟩:=JN B5.out d1 d2 d3;have CS:=HCS.out s k HE.out hlt;have HE2:=Aa (HNX.out s k HE.out hlt);have HR2:=Aa (HR.out.trans (by rw[HST.out s k hlt]:(Xj mod own s (l.drop k)).getD 0 0=_));have S1:=Aa (dD (mod:=mod) (own:=own) (s:=s) (x:=l.getD k (0,0,0)));have S2:=Aa (cZ (mod:=mod) (own:=own) (s:=s) (x:=l.getD k (0,0,0)));have S5:=Aa (cV (mod:=mod) (own:=own) (s:=s) (x:=l.getD k (0,0,0)));have S6:=Aa (cQ (mod:=mod) (own:=own) (s:=s) (x:=l.getD k (0,0,0)));have HSA:=Aa HE.out.all;clear HCS HNX HST HOP HE HR;generalize Xm mod own s (l.getD k (0,0,0))=s' at*;generalize (l.getD k (0,0,0)).1=x at*;generalize (l.getD k (0,0,0)).2.1=y at*;generalize (l.getD k (0,0,0)).2.2=z at*;have HBA:=Aa (HB.out.trans ((Ae wr (.cells #[.int .i64 x,.int .i64 y,.int .i64 z] 137)).mono HB.out.size));rcases CS with⟨h1,h2,h3⟩ | ⟨h1,h2,h3⟩ | ⟨h1,h2⟩ | ⟨h1,h2,h3⟩
     ·subst h1;have E:=Aa (S1.out rfl);have ht:y.tmod mod=y % mod:=Int.tmod_eq_emod_of_nonneg h2;clear S1 S2 S5 S6;go_wp2_with (at_builtin;refine wpList_append_lies ((wr.alloc (.cells #[.int .i64 1,.int .i64 y,.int .i64 z] 137)).alloc (.cells #[.int .i64 (y % mod)] 3)) rfl (.tmp 105) (.tmp 110) 22 rfl w4.heap.size 3 i0 (.int .i64 0) 1 8 Tryz.underlying22 hi0 hz0 hz1 hz2 rfl (by decide) (.slice sa s.length sc) s.length _ rfl ((World.ownsRow.alloc HO.out _).alloc _) ⟨wr.heap.size+1,0,none⟩ 1 1 [.int .i64 (y % mod)] rfl rfl (World.news_of_block (by simpa using Ar (wr.alloc (.cells #[.int .i64 1,.int .i64 y,.int .i64 z] 137)) (.cells #[.int .i64 (y % mod)] 3))) (by simp[Value.oneCell']) (by omega) (by unfold maxLen;omega) (by omega) (by have:=HB.out.size;simp;omega) (wr.heap.size+2) (by simp) ?_;intro g3 cap3 w3 hown3 hgr3 hor3 hlt3;have HO3:=Aa hown3;have HB4:=Aa (CA HBA.out (World.ownsRow.alloc HO.out _) hgr3);clear hown3 hgr3 hor3)
      go_roundg (l.length - (k+1))
      case measure=>omega
      case rel=>exact⟨k+1,s',by omega,by simp,Aa (by rw[E.out];unfold AW;rw[Bs,Ec];exact HO3.out),by rw[E.out,Bs];simp;omega,HE2,HR2,HB4⟩
     ·subst h1;have E:=Aa (S2.out rfl);obtain⟨q,rfl⟩:∃q:Nat,y=(q:Int):=⟨y.toNat,by omega⟩;have hq:q<own.length:=by omega
      have zq:(q:Int)<(own.length:Int):=by omega
      obtain⟨b2,o2,rfl,p1⟩:=HOC.out q hq;have p1:=Af B5.out p1;rw[BT]at E;have p2:=Af (Ae wr (.cells #[.int .i64 2,.int .i64 (q:Nat),.int .i64 z] 137)) p1;clear S1 S2 S5 S6;generalize own.getD q 0=a0 at*;go_wp2_with (at_builtin;refine wpList_append_lies ((wr.alloc (.cells #[.int .i64 2,.int .i64 (q:Nat),.int .i64 z] 137)).alloc (.cells #[.int .i64 a0] 3)) rfl (.tmp 114) (.tmp 120) 22 rfl w4.heap.size 3 i0 (.int .i64 0) 1 8 Tryz.underlying22 hi0 hz0 hz1 hz2 rfl (by decide) (.slice sa s.length sc) s.length _ rfl ((World.ownsRow.alloc HO.out _).alloc _) ⟨wr.heap.size+1,0,none⟩ 1 1 [.int .i64 a0] rfl rfl (World.news_of_block (by simpa using Ar (wr.alloc (.cells #[.int .i64 2,.int .i64 (q:Nat),.int .i64 z] 137)) (.cells #[.int .i64 a0] 3))) (by simp[Value.oneCell']) (by omega) (by unfold maxLen;omega) (by omega) (by have:=HB.out.size;simp;omega) (wr.heap.size+2) (by simp) ?_;intro g3 cap3 w3 hown3 hgr3 hor3 hlt3;have HO3:=Aa hown3;have HB4:=Aa (CA HBA.out (World.ownsRow.alloc HO.out _) hgr3);clear hown3 hgr3 hor3)
      go_roundg (l.length - (k+1))
      case measure=>omega
      case rel=>exact⟨k+1,s',by omega,by simp,Aa (by rw[E.out];unfold AW;rw[Bs,Ec];exact HO3.out),by rw[E.out,Bs];simp;omega,HE2,HR2,HB4⟩
     ·subst h1;have E:=Aa (S5.out rfl);obtain⟨m,hsm⟩:∃m,s.length=m+1:=⟨s.length - 1,by omega⟩;obtain⟨g,cap,e3,hg1,hg2⟩:=AW.form HO.out (by omega);cases e3;have HOA:=Aa (show AW w4.heap.size (wr.alloc (.cells #[.int .i64 5,.int .i64 y,.int .i64 z] 137)) (.slice (some ⟨g,0,none⟩) s.length sc) s from World.ownsRow.alloc HO.out _);have p1:=HOA.out.cell (j:=m) (by omega);rw[hsm,Nat.add_sub_cancel]at E;have HSM:=Aa hsm;have zm:(m:Int)<(m:Int)+1:=by omega
      have hmk:(m:Int)≤1000000:=by omega
      rw[hsm];have HSK:=Aa hsk;clear S1 S2 S5 S6 hsm h2 hsk;generalize hx0:s.getD m 0=x0 at*;clear hx0;go_wp2_with (go_at_call 109;refine(HTR.out _ _).mono ?_;rintro e5 w5 ⟨rfl,hb5⟩;have HO5:=Aa (HOA.out.more hb5);have HB5:=Aa (HBA.out.trans (hb5.mono HBA.out.size));have cz:=HO5.out.cell (j:=m) (by have:=HSM.out;omega);have fz:=(HO5.out.set (j:=m) (by have:=HSM.out;omega) 0).2;clear hb5)
      go_roundg (l.length - (k+1))
      case measure=>omega
      case rel=>exact⟨k+1,s',by omega,by simp,Aa (by rw[E.out];have:=(HO5.out.set (j:=m) (by have:=HSM.out;omega) (Hr (x0==0))).1;rw[HSM.out]at this;exact this),by rw[E.out,List.length_set];have:=HSK.out;omega,HE2,HR2,Aa (HB5.out.setCell (p:=⟨g,m,none⟩) hg1 _)⟩
     ·have n1:(x==1)=false:=Bh (by omega);have n2:(x==2)=false:=Bh (by omega);have n3:(x==3)=false:=Bh (by omega);have n4:(x==4)=false:=Bh (by omega);have n5:(x==5)=false:=Bh (by omega);have E:=Aa (S6.out h1);obtain⟨m,hsm⟩:∃m,s.length=m+2:=⟨s.length - 2,by omega⟩;obtain⟨g,cap,e3,hg1,hg2⟩:=AW.form HO.out (by omega);cases e3;have HOA:=Aa (show AW w4.heap.size (wr.alloc (.cells #[.int .i64 x,.int .i64 y,.int .i64 z] 137)) (.slice (some ⟨g,0,none⟩) s.length sc) s from World.ownsRow.alloc HO.out _);have p1:=HOA.out.cell (j:=m) (by omega);have p2:=HOA.out.cell (j:=m+1) (by omega);have i1:=Fm HSA.out (j:=m) (by omega);have i2:=Fm HSA.out (j:=m+1) (by omega);rw[show s.length - 2=m by omega,show s.length - 1=m+1 by omega]at E;have hcap:=XO HO.out;have HSM:=Aa hsm;have c0:=Ab (Ar wr (.cells #[.int .i64 x,.int .i64 y,.int .i64 z] 137)) 0 (.int .i64 x) rfl;rw[hsm];rw[hsm]at hcap;have zm:(m:Int)<(m:Int)+2:=by omega
      have zm1:(m:Int)+1<(m:Int)+2:=by omega
      have hmk:(m:Int)≤1000000:=by omega
      have HW:=Aa (fun(w':World)=>HTW.out x (s.getD m 0) (s.getD (m+1) 0) mod w' ⟨i1.1,by omega⟩ ⟨i2.1,by omega⟩ hm i2.2);have HSK:=Aa hsk;clear S1 S2 S5 S6 hsm hsk i1 i2;generalize s.getD m 0=x0 at*;generalize s.getD (m+1) 0=x1 at*;go_wp2_with fail
      generalize hwA:wr.alloc (.cells #[.int .i64 x,.int .i64 y,.int .i64 z] 137)=wA at*;have f0:∀i:Bk wA,i.1.cell? ⟨wr.heap.size,0,none⟩=some (.int .i64 x):=fun i=>i.cell c0;have f1:∀i:Bk wA,i.1.cell? ⟨g,m,none⟩=some (.int .i64 x0):=fun i=>i.cell p1;have f2:∀i:Bk wA,i.1.cell? ⟨g,m+1,none⟩=some (.int .i64 x1):=fun i=>i.cell p2;refine AD (by kernel_rfl) (by kernel_rfl) ?_;repeat (go_big_quiet_step ((go_at_call 110;exact Calls.sub_of (HW.out _))))
      refine wpQuiet_nil ?_;intro w5 hb5;have HO5:=Aa (HOA.out.more hb5);have HB5:=Aa (HBA.out.trans (hb5.mono HBA.out.size));have cz:=HO5.out.cell (j:=m) (by have:=HSM.out;omega);have fz:=(HO5.out.set (j:=m) (by have:=HSM.out;omega) 0).2;clear hb5;go_wp2_with fail
      go_roundg (l.length - (k+1))
      case measure=>omega
      case rel=>exact⟨k+1,s',by omega,by simp,Aa (by
       rw[E.out];have:=(HO5.out.set (j:=m) (by have:=HSM.out;omega) (Jv x x0 x1 mod)).1;rw[HSM.out]at this;exact AW.pop (m:=m+1) this (by rw[List.length_set,HSM.out])),by rw[E.out,List.length_take,List.length_set];have:=HSK.out;omega,HE2,HR2,Aa (HB5.out.setCell (p:=⟨g,m,none⟩) hg1 _)⟩
    ·have hkk:k=l.length:=by omega
     subst hkk;have hs1:=HE.out.len;obtain⟨g,cap,e3,hg1,hg2⟩:=AW.form HO.out (by omega);cases e3;have p1:=HO.out.cell (j:=0) (by omega);have HR2:=Aa (HR.out.trans (by rw[List.drop_length];rfl:_=s.getD 0 0));have B5:=Aa (B4.out.trans (HB.out.mono B4.out.size));rw[hs1];clear hs1 hsk HE HR HO;generalize s.getD 0 0=x0 at*;go_wp2_with fail
     refine Bd (v:=.tuple #[.int .i64 x0,.bool true]) (by simp[results,Tryz.results86,go_sem]) rfl ?_;exact⟨by rw[HR2.out],B5.out⟩
end Go.Proofs.YtlhpjfnfemebdaaGreat
