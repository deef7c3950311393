/- Plain: rows of groups; what 'less' leaves; the first part -/
import Derived.Test.YtlhpjfnfemebdaaGreatFairA
import Derived.Test.YtlhpjfnfemebdaaGreatOrderLaw
import Derived.Test.YtlhpjfnfemebdaaGreatJPartsMem
set_option maxRecDepth 100000
set_option maxHeartbeats 64000000
set_option linter.unusedSimpArgs false
namespace Go.Proofs.YtlhpjfnfemebdaaGreat
open Go.RowKit
def DN(p:List Int→Bool)(rows:List (List Int)):List Int:=(rows.find? p).getD []
theorem Pp{p:List Int→Bool}:∀{rows:List (List Int)} {k:Nat},k<rows.length→(∀j,j<k→p (rows.getD j [])=false)→p (rows.getD k [])=true→DN p rows=rows.getD k []
 | [],k,hk,_,_=>by simp at hk
 | r::rows,0,_,_,h=>by
  have h':p r=true:=h;unfold DN;rw[List.find?_cons_of_pos h'];rfl
 | r::rows,k+1,hk,ha,h=>by
  have h0:¬p r=true:=by rw[show p r=false from ha 0 (by omega)];simp
  have:=Pp (rows:=rows) (k:=k) (by simpa using hk) (fun j hj=>by simpa using ha (j+1) (by omega)) (by simpa using h);unfold DN at this ⊢;rw[List.find?_cons_of_neg h0,this];simp
theorem SY{p:List Int→Bool}{rows:List (List Int)}(h:∀j,j<rows.length→p (rows.getD j [])=false):DN p rows=[]:=by
 unfold DN;rw[List.find?_eq_none.2 ?_];rfl;intro r hr;obtain⟨j,hj,rfl⟩:=Ey hr;have:=h j hj;rw[AM,Bf hj]at this;simpa using this
theorem Ou{rows:List (List Int)}{k:Nat}(h:k<rows.length):rows.getD k []∈rows:=by simp[List.getD,h]
theorem JU(p:List Int→Bool)(rows:List (List Int)):DN p rows=[]∨(DN p rows∈rows∧p (DN p rows)=true):=by
 unfold DN;rcases h:rows.find? p with _ | r
 ·exact .inl rfl
 ·exact .inr ⟨List.mem_of_find?_eq_some h,List.find?_some h⟩
/-! rows of groups -/
theorem SH{ps:List Int}{inn:Nat→Bool}{r:List Int}(h:r∈Og ps inn):∃j,j<ps.length∧inn j=true∧r=(CR (fun k=>ps.getD k 0) inn ps.length (ps.getD j 0)).map (fun k:Nat=>(k:Int)):=by
 unfold Og Dw Ii at h;simp only[DJ]at h;obtain⟨r',⟨j,hj,rfl⟩,rfl⟩:=h;obtain⟨h1,h2⟩:=BP.1 hj;exact⟨j,h1,(Cx.1 h2).1,rfl⟩
theorem Sy(q:Nat→Int)(inn:Nat→Bool)(n:Nat)(p:Int):((CR q inn n p).map (fun k:Nat=>(k:Int))).Nodup:=by
 have h:(CR q inn n p).Pairwise (·<·):=List.Pairwise.filter _ List.pairwise_lt_range;exact List.Pairwise.map (fun k:Nat=>(k:Int)) (fun a b hab=>by show(a:Int)≠(b:Int);omega) h
theorem RY{ps:List Int}{inn:Nat→Bool}{r:List Int}(h:r∈Og ps inn):r.Nodup∧r.length≤ps.length∧∀x∈r,∃i:Nat,x=(i:Int)∧i<ps.length∧inn i=true:=by
 obtain⟨j,-,-,rfl⟩:=SH h;refine⟨Sy _ _ _ _,by rw[Fi];exact KU _ _,fun x hx=>?_⟩;obtain⟨i,hi,rfl⟩:=DJ.1 hx;obtain⟨h1,h2,-⟩:=Jf.1 hi;exact⟨i,rfl,h1,h2⟩
theorem Rl(ps:List Int)(inn:Nat→Bool):(Og ps inn).length≤ps.length:=by
 unfold Og;rw[FW];exact Vl _
theorem IY{g:Gr}{r:List Int}(h:r∈Cd g):r.length≤Ad g∧∀x∈r,0≤x∧x<(Ad g:Int):=by
 obtain⟨-,h1,h2⟩:=RY h;rw[BN]at h1 h2;exact⟨h1,fun x hx=>by obtain⟨i,rfl,hi,-⟩:=h2 x hx;omega⟩
theorem SP(g:Gr):(Cd g).length≤Ad g:=by
 have:=Rl (Be g) (fun _=>true);rw[BN]at this;exact this
theorem Sj(g:Gr)(l:List Bool):(Aw g l).length≤100000:=by
 have:=Rl (Be (Bg g l)) (fun i=>l.getD i false);rw[BN]at this;exact CP this (Hx g l)
theorem Gt{g:Gr}{l:List Bool}{r:List Int}(h:r∈Aw g l):r.Nodup∧r.length≤100000∧∀x∈r,∃i:Nat,x=(i:Int)∧i<l.length∧l.getD i false=true:=by
 obtain⟨h0,h1,h2⟩:=RY h;rw[BN]at h1 h2;refine⟨h0,CP h1 (Hx g l),fun x hx=>?_⟩;obtain⟨i,rfl,-,hi⟩:=h2 x hx;refine⟨i,rfl,?_,hi⟩;refine Decidable.byContradiction fun hn=>?_;rw[AM,List.getElem?_eq_none (by omega)]at hi;cases hi
/-! what less leaves -/
def UY(g:Gr)(en:List (List Bool))(A:Nat)(part:List Int)(i:Nat):Bool:=decide ((i:Int)∈part)&&(List.range A).all (fun a=>FC g part a || !(en.getD i []).getD a false)
def GS(g:Gr)(en:List (List Bool))(A:Nat)(part:List Int):List Bool:=BV en.length (UY g en A part)
theorem FU:∀{a b:List Int},a.Nodup→(∀x∈a,x∈b)→a.length≤b.length
 | [],_,_,_=>by simp
 | x::a,b,hn,hs=>by
  have hn':=List.nodup_cons.1 hn;have hxb:=hs x (List.mem_cons_self ..);have:=FU (a:=a) (b:=b.erase x) hn'.2 (fun y hy=>(List.mem_erase_of_ne (fun(e:y=x)=>hn'.1 (by rw[← e];exact hy))).2 (hs y (List.mem_cons_of_mem _ hy)));rw[List.length_erase_of_mem hxb]at this;have:=List.length_pos_of_mem hxb;simp;omega
theorem Xr{en:List (List Bool)}{part:List Int}{a:Nat}(h:0<JW en part a):∃x∈part,(en.getD x.toNat []).getD a false=true:=by
 unfold JW Eu at h;obtain⟨x,hx⟩:=List.exists_mem_of_length_pos h;rw[Ez]at hx;obtain⟨h1,h2⟩:=List.mem_filter.1 hx;exact⟨x,h1,h2⟩
theorem QQ{g:Gr}{en:List (List Bool)}{A:Nat}{part r:List Int}(_hin:∀x∈part,0≤x∧x<(en.length:Int))(hs:¬(TD g en Ga part A).length=0)(hr:r∈Aw g (GS g en A part)):r.length+1≤part.length:=by
 obtain⟨hn,-,hm⟩:=Gt hr;have hm':∀x∈r,∃i:Nat,x=(i:Int)∧i<en.length∧UY g en A part i=true:=fun x hx=>by
  obtain⟨i,rfl,h1,h2⟩:=hm x hx;unfold GS at h1 h2;rw[AJ]at h1;rw[BW _ _ _ _ h1]at h2;exact⟨i,rfl,h1,h2⟩
 rw[Je]at hs;obtain⟨a,ha⟩:=Classical.not_forall.1 hs;obtain⟨ha,hb⟩:=Classical.not_imp.1 ha;have hb:OA g en Ga part a=true:=by cases h:OA g en Ga part a;exact absurd h hb;rfl
 unfold OA at hb;rw[Ci]at hb;obtain⟨h1,h2⟩:=hb;have h3:0<JW en part a:=by unfold Ga at h2;exact of_decide_eq_true h2
 obtain⟨y,hy,he⟩:=Xr h3;have hyr:y∉r:=fun hyr=>by
  obtain⟨i,rfl,hi,hp⟩:=hm' y hyr;unfold UY at hp;rw[Ci]at hp;have:=List.all_eq_true.1 hp.2 a (Cg.2 ha);rw[BT]at he;rw[he]at this;simp at this h1;rw[this]at h1;cases h1
 have:=FU (a:=y::r) (b:=part) (List.nodup_cons.2 ⟨hyr,hn⟩) (fun x hx=>by
  rcases Br.1 hx with rfl | hx
  ·exact hy
  ·obtain⟨i,rfl,-,hp⟩:=hm' x hx;unfold UY at hp;rw[Ci]at hp;exact of_decide_eq_true hp.1)
 simpa using this
/-! the first part that is strongly fair -/
noncomputable def Cy(g:Gr)(en:List (List Bool))(A:Nat)(SUB:List Int→List Int):List (List Int)→List Int
 | []=>[]
 | l::rest=>if CV g l=true then(if Bb g en Ga A l=true then l else if 0<(SUB l).length then SUB l else Cy g en A SUB rest) else Cy g en A SUB rest
noncomputable def Pr(g:Gr)(en:List (List Bool))(A:Nat):Nat→List (List Int)→List Int
 | 0,_=>[]
 | n+1,rows=>Cy g en A (fun l=>Pr g en A n (Aw g (GS g en A l))) rows
theorem MD{g:Gr}{l:List Int}(h:CV g l=true):0<l.length:=by
 unfold CV at h;obtain⟨e,-,h1,-⟩:=of_decide_eq_true h;exact List.length_pos_of_mem h1
theorem JR{g:Gr}{en:List (List Bool)}{A:Nat}{SUB:List Int→List Int}{l:List Int}{rest:List (List Int)}(h:CV g l=false):Cy g en A SUB (l::rest)=Cy g en A SUB rest:=by
 rw[Cy,h];rfl
theorem Na{g:Gr}{en:List (List Bool)}{A:Nat}{SUB:List Int→List Int}{l:List Int}{rest:List (List Int)}(h:CV g l=true)(h2:Bb g en Ga A l=true):Cy g en A SUB (l::rest)=l:=by
 rw[Cy,if_pos h,if_pos h2]
theorem PD{g:Gr}{en:List (List Bool)}{A:Nat}{SUB:List Int→List Int}{l:List Int}{rest:List (List Int)}(h:CV g l=true)(h2:Bb g en Ga A l=false)(h3:0<(SUB l).length):Cy g en A SUB (l::rest)=SUB l:=by
 rw[Cy,if_pos h,h2,if_neg (by simp),if_pos h3]
theorem Ox{g:Gr}{en:List (List Bool)}{A:Nat}{SUB:List Int→List Int}{l:List Int}{rest:List (List Int)}(h:CV g l=true)(h2:Bb g en Ga A l=false)(h3:¬0<(SUB l).length):Cy g en A SUB (l::rest)=Cy g en A SUB rest:=by
 rw[Cy,if_pos h,h2,if_neg (by simp),if_neg h3]
def gZ(en:List (List Bool))(r:List Int):Prop:=∀x∈r,0≤x∧x<(en.length:Int)
theorem Pd{g:Gr}{en:List (List Bool)}{A:Nat}{l:List Int}(hc:CV g l=true)(hf:Bb g en Ga A l=false):¬(TD g en Ga l A).length=0:=by
 intro h;unfold Bb at hf;rw[hc,Ck h]at hf;cases hf
theorem My{l:List Bool}{a:Nat}:Cz l (a:Int)=true↔l.getD a false=true:=by
 unfold Cz;rw[Ci,EU,BT];constructor
 ·exact fun h=>h.2
 ·intro h;refine⟨?_,h⟩;refine Decidable.byContradiction fun hn=>?_;rw[AM,List.getElem?_eq_none (by omega)]at h;cases h
theorem Rc{g:Gr}(h:Rt g)(hn:g.S.length≤100000)(l:List Bool):∃L,Bg g l=Iq (Ad g) L∧AY (Ad g:Nat) L=true∧∀e,e∈L↔e∈Av g∧Cz l e.1=true∧Cz l e.2.2=true:=by
 have hL:∀e,e∈BA (CT l) (Av g)↔e∈Av g∧Cz l e.1=true∧Cz l e.2.2=true:=fun e=>by
  unfold BA;rw[DJ];constructor
  ·rintro⟨e',he,rfl⟩;obtain⟨h1,h2⟩:=List.mem_filter.1 he;have h3:(Cz l e'.1&&Cz l e'.2.2)=true:=h2;rw[Ci]at h3;exact⟨h1,h3.1,h3.2⟩
  ·rintro⟨h1,h2,h3⟩;refine⟨e,List.mem_filter.2 ⟨h1,?_⟩,rfl⟩;show(Cz l e.1&&Cz l e.2.2)=true;rw[h2,h3];rfl
 have hb:AY (Ad g:Nat) (BA (CT l) (Av g))=true:=by
  have hnr:=Ap h;refine JK (by omega) fun e he=>?_;have:=Bt h ((hL e).1 he).1;omega
 refine⟨_,?_,hb,hL⟩;unfold Bg;rw[Fg h,Jt hb]
theorem Gu{g:Gr}(h:Rt g)(hn:g.S.length≤100000)(l:List Bool):Ad (Bg g l)=Ad g:=by
 obtain⟨L,e,hb,-⟩:=Rc h hn l;rw[e,Pi hb]
theorem UF{g:Gr}(h:Rt g)(hn:g.S.length≤100000)(l:List Bool)(a b:Nat):Eg (Bg g l) a b↔Eg g a b∧l.getD a false=true∧l.getD b false=true:=by
 obtain⟨L,e,hb,hL⟩:=Rc h hn l;unfold Eg;rw[e];constructor
 ·rintro⟨x,hx,h1,h2⟩;obtain⟨h3,h4,h5⟩:=(hL x).1 ((Gp hb x).1 hx);rw[h1]at h4;rw[h2]at h5;exact⟨⟨x,h3,h1,h2⟩,My.1 h4,My.1 h5⟩
 ·rintro⟨⟨x,hx,h1,h2⟩,h4,h5⟩;refine⟨x,(Gp hb x).2 ((hL x).2 ⟨hx,?_,?_⟩),h1,h2⟩
  ·rw[h1];exact My.2 h4
  ·rw[h2];exact My.2 h5
noncomputable def Sv(g:Gr)(l:List Bool)(j:Nat):List Int:=((List.range (Ad g)).filter (fun k=>l.getD k false&&decide (DR (Bg g l) k=DR (Bg g l) j))).map (fun k:Nat=>(k:Int))
theorem SI{g:Gr}{l:List Bool}{j:Nat}{x:Int}:x∈Sv g l j↔∃k:Nat,x=(k:Int)∧k<Ad g∧l.getD k false=true∧SC (Bg g l) k j:=by
 unfold Sv;rw[DJ];constructor
 ·rintro⟨k,hk,rfl⟩;obtain⟨h1,h2⟩:=List.mem_filter.1 hk;rw[Ci,EU,II]at h2;exact⟨k,rfl,Cg.1 h1,h2.1,h2.2⟩
 ·rintro⟨k,rfl,h1,h2,h3⟩;refine⟨k,List.mem_filter.2 ⟨Cg.2 h1,?_⟩,rfl⟩;rw[Ci,EU,II];exact⟨h2,h3⟩
theorem MU{g:Gr}(h:Rt g)(hn:g.S.length≤100000)(l:List Bool){j:Nat}(hj:j<Ad g):
 (CR (fun k=>(Be (Bg g l)).getD k 0) (fun i=>l.getD i false) (Ad g) ((Be (Bg g l)).getD j 0)).map (fun k:Nat=>(k:Int))=Sv g l j:=by
 have hk:=Gu h hn l;unfold Sv CR
 congr 1
 refine List.filter_congr fun k hkr=>?_;have hkr:=Cg.1 hkr;show(l.getD k false&&decide ((Be (Bg g l)).getD k 0=(Be (Bg g l)).getD j 0))=_;rw[DA (by omega),DA (by omega)]
 congr 1
 exact Dz ⟨fun e=>by omega,fun e=>by rw[e]⟩
theorem IG{g:Gr}(h:Rt g)(hn:g.S.length≤100000){l:List Bool}{r:List Int}:r∈Aw g l↔∃j,j<Ad g∧l.getD j false=true∧r=Sv g l j:=by
 have hk:=Gu h hn l;constructor
 ·intro hr;obtain⟨j,hj,hin,rfl⟩:=SH hr;rw[BN,hk]at hj ⊢;exact⟨j,hj,hin,MU h hn l hj⟩
 ·rintro⟨j,hj,hin,rfl⟩;obtain⟨j',hj',e,-⟩:=FM (q:=fun k=>(Be (Bg g l)).getD k 0) (inn:=fun i=>l.getD i false) (j+1) (Ad g) j (by omega) hj hin;rw[← MU h hn l hj];unfold Aw Og Dw Ii;rw[BN,hk];refine DJ.2 ⟨_,DJ.2 ⟨j',hj',?_⟩,rfl⟩;exact congrArg (CR _ _ _) e
theorem Uh{g:Gr}(h:Rt g)(hn:g.S.length≤100000)(l:List Bool):(Aw g l).length=(Bm (fun k=>(Be (Bg g l)).getD k 0) (fun i=>l.getD i false) (Ad g)).length:=by
 unfold Aw Og;rw[FW,BN,Gu h hn l];unfold Ii;rw[Fi]
theorem Oe{g:Gr}(h:Rt g)(hn:g.S.length≤100000){l:List Bool}:(Aw g l).length=1↔(∃j,j<Ad g∧l.getD j false=true)∧∀i j,i<Ad g→j<Ad g→l.getD i false=true→l.getD j false=true→SC (Bg g l) i j:=by
 have hk:=Gu h hn l;have hq:∀i j,i<Ad g→j<Ad g→((Be (Bg g l)).getD i 0=(Be (Bg g l)).getD j 0↔SC (Bg g l) i j):=fun i j hi hj=>by
  rw[DA (by omega),DA (by omega),← II];exact⟨fun e=>by omega,fun e=>by rw[e]⟩
 rw[Uh h hn];constructor
 ·intro h1;obtain⟨f,hf⟩:=List.length_eq_one_iff.1 h1;have hff:f∈Bm (fun k=>(Be (Bg g l)).getD k 0) (fun i=>l.getD i false) (Ad g):=by rw[hf];simp
  have hall:∀i,i<Ad g→l.getD i false=true→(Be (Bg g l)).getD f 0=(Be (Bg g l)).getD i 0:=fun i hi hin=>by
   obtain⟨j',hj',e,-⟩:=FM (q:=fun k=>(Be (Bg g l)).getD k 0) (inn:=fun i=>l.getD i false) (i+1) (Ad g) i (by omega) hi hin;rw[hf,Ds]at hj';subst hj';exact e
  refine⟨⟨f,(BP.1 hff).1,(Cx.1 (BP.1 hff).2).1⟩,fun i j hi hj h1 h2=>(hq i j hi hj).1 ?_⟩;rw[← hall i hi h1,hall j hj h2]
 ·rintro⟨⟨j,hj,hin⟩,hall⟩;obtain⟨j',hj',-,-⟩:=FM (q:=fun k=>(Be (Bg g l)).getD k 0) (inn:=fun i=>l.getD i false) (j+1) (Ad g) j (by omega) hj hin;have hpos:=List.length_pos_of_mem hj';have hp:(Bm (fun k=>(Be (Bg g l)).getD k 0) (fun i=>l.getD i false) (Ad g)).Pairwise (·<·):=List.pairwise_lt_range.filter _;generalize hF:Bm (fun k=>(Be (Bg g l)).getD k 0) (fun i=>l.getD i false) (Ad g)=F at*
  match F,hpos,hp with
  | [_],_,_=>rfl
  | a::b::F',_,hp=>
   exfalso;have hab:a<b:=(BG.1 hp).1 b (List.mem_cons_self ..);have ha:a∈Bm (fun k=>(Be (Bg g l)).getD k 0) (fun i=>l.getD i false) (Ad g):=by rw[hF];simp
   have hb:b∈Bm (fun k=>(Be (Bg g l)).getD k 0) (fun i=>l.getD i false) (Ad g):=by rw[hF];simp
   obtain⟨ha1,ha2⟩:=BP.1 ha;obtain⟨hb1,hb2⟩:=BP.1 hb;have hia:=(Cx.1 ha2).1;have hib:=Cx.1 hb2;exact hib.2 a hab hia ((hq a b ha1 hb1).2 (hall a b ha1 hb1 hia hib.1))
/-! a part as what is in -/
def Aj(n:Nat)(part:List Int):List Bool:=BV n (fun i=>decide ((i:Int)∈part))
theorem FQ{n:Nat}{part:List Int}{i:Nat}(h:i<n):(Aj n part).getD i false=true↔(i:Int)∈part:=by
 unfold Aj;rw[BW _ _ _ _ h,EU]
theorem Cn(n:Nat)(part:List Int):(Aj n part).length=n:=by unfold Aj;rw[AJ]
theorem eV{g:Gr}(h:Rt g){a b:Nat}(he:Eg g a b):a<Ad g∧b<Ad g:=by
 obtain⟨e,he,h1,h2⟩:=he;have:=Bt h he;have:=Ap h;omega
theorem Uz{g:Gr}(h:Rt g)(hn:g.S.length≤100000){l:List Bool}{r:List Int}(hr:r∈Aw g l):(Aw g (Aj (Ad g) r)).length=1:=by
 obtain⟨j,hj,hin,rfl⟩:=(IG h hn).1 hr;rw[Oe h hn];have hme:∀k,k<Ad g→((Aj (Ad g) (Sv g l j)).getD k false=true↔l.getD k false=true∧SC (Bg g l) k j):=fun k hk=>by
  rw[FQ hk,SI];constructor
  ·rintro⟨k',e,-,h1,h2⟩;obtain rfl:k=k':=by omega
   exact⟨h1,h2⟩
  ·rintro⟨h1,h2⟩;exact⟨k,rfl,hk,h1,h2⟩
 have key:∀a b,Io (Eg (Bg g l)) a b→SC (Bg g l) a j→Io (Eg (Bg g l)) b a→Io (Eg (Bg g (Aj (Ad g) (Sv g l j)))) a b:=by
  intro a b hp
  induction hp with
  | refl=>intros;exact .refl _
  | @step x b hx he ih=>
   intro hsa hba;have hxa:Io (Eg (Bg g l)) x a:=(Io.one he).trans hba;have hsx:SC (Bg g l) x j:=⟨hxa.trans hsa.1,hsa.2.trans hx⟩;have hsb:SC (Bg g l) b j:=⟨hba.trans hsa.1,hsa.2.trans (hx.trans (Io.one he))⟩;refine .step (ih hsa hxa) ?_;rw[UF h hn]at he ⊢;obtain⟨he1,he2,he3⟩:=he;obtain⟨hl1,hl2⟩:=eV h he1;exact⟨he1,(hme x hl1).2 ⟨he2,hsx⟩,(hme b hl2).2 ⟨he3,hsb⟩⟩
 refine⟨⟨j,hj,(hme j hj).2 ⟨hin,SC.refl _ _⟩⟩,fun a b ha hb h1 h2=>?_⟩;have ha':=((hme a ha).1 h1).2;have hb':=((hme b hb).1 h2).2;have hab:SC (Bg g l) a b:=ha'.trans hb'.symm;exact⟨key a b hab.1 ha' hab.2,key b a hab.2 hb' hab.1⟩
theorem Zu{en:List (List Bool)}{p:List Int}{a:Nat}:JW en p a=p.length↔∀x∈p,(en.getD x.toNat []).getD a false=true:=by
 unfold JW Eu;rw[Ez,List.length_filter_eq_length_iff]
theorem GT{g:Gr}{en:List (List Bool)}{sp:Nat→Nat→Bool}{A:Nat}{p:List Int}:Bb g en sp A p=true↔CV g p=true∧∀a,a<A→OA g en sp p a=false:=by
 unfold Bb;rw[Ci,EU,Je]
structure Ml(g:Gr)(en:List (List Bool))(sp:Nat→Nat→Bool)(A:Nat)(p:List Int):Prop where
 nd:p.Nodup
 inn:∀x∈p,∃i:Nat,x=(i:Int)∧i<Ad g
 one:(Aw g (Aj (Ad g) p)).length=1
 fair:Bb g en sp A p=true
theorem Rz{g:Gr}(h:Rt g)(hn:g.S.length≤100000){l:List Bool}{r:List Int}(hr:r∈Aw g l){en:List (List Bool)}{sp:Nat→Nat→Bool}{A:Nat}(hf:Bb g en sp A r=true):Ml g en sp A r:=by
 refine⟨(Gt hr).1,fun x hx=>?_,Uz h hn hr,hf⟩;obtain⟨j,-,-,rfl⟩:=(IG h hn).1 hr;obtain⟨k,rfl,hk,-⟩:=SI.1 hx;exact⟨k,rfl,hk⟩
theorem Cr{g:Gr}(h:Rt g)(hn:g.S.length≤100000):Cd g=Aw g (List.replicate (Ad g) true):=by
 rw[Pg,Le];unfold Ks Oo;rw[Yt h hn]
theorem VR{g:Gr}(h:Rt g)(hn:g.S.length≤100000){en:List (List Bool)}{A:Nat}(hl:0<(DN (Bb g en GQ A) (Cd g)).length):Ml g en GQ A (DN (Bb g en GQ A) (Cd g)):=by
 rcases JU (Bb g en GQ A) (Cd g) with e | ⟨h1,h2⟩
 ·rw[e]at hl;simp at hl
 ·rw[Cr h hn]at h1 ⊢;exact Rz h hn h1 (by rw[Cr h hn]at h2;exact h2)
theorem Ld{g:Gr}{en:List (List Bool)}{A:Nat}{SUB:List Int→List Int}:∀{rows:List (List Int)},Cy g en A SUB rows=[]∨(Cy g en A SUB rows∈rows∧Bb g en Ga A (Cy g en A SUB rows)=true)∨∃l∈rows,Cy g en A SUB rows=SUB l
 | []=>.inl rfl
 | l::rest=>by
  have ih:=Ld (g:=g) (en:=en) (A:=A) (SUB:=SUB) (rows:=rest);have hr:∀{x},Cy g en A SUB (l::rest)=x→Cy g en A SUB rest=x→Cy g en A SUB (l::rest)=[]∨(Cy g en A SUB (l::rest)∈l::rest∧Bb g en Ga A (Cy g en A SUB (l::rest))=true)∨∃y∈l::rest,Cy g en A SUB (l::rest)=SUB y:=fun {x} e1 e2=>by
   rw[e1,← e2];rcases ih with h | ⟨h1,h2⟩ | ⟨y,h1,h2⟩
   ·exact .inl h
   ·exact .inr (.inl ⟨List.mem_cons_of_mem _ h1,h2⟩)
   ·exact .inr (.inr ⟨y,List.mem_cons_of_mem _ h1,h2⟩)
  cases hc:CV g l
  ·exact hr (JR hc) rfl
  ·cases hf:Bb g en Ga A l
   ·by_cases h3:0<(SUB l).length
    ·exact .inr (.inr ⟨l,List.mem_cons_self ..,PD hc hf h3⟩)
    ·exact hr (Ox hc hf h3) rfl
   ·rw[Na hc hf];exact .inr (.inl ⟨List.mem_cons_self ..,hf⟩)
theorem Rv{g:Gr}(h:Rt g)(hn:g.S.length≤100000){en:List (List Bool)}{A:Nat}:∀(n:Nat) {l:List Bool},0<(Pr g en A n (Aw g l)).length→Ml g en Ga A (Pr g en A n (Aw g l))
 | 0,_,hp=>by simp[Pr]at hp
 | n+1,l,hp=>by
  have e:Pr g en A (n+1) (Aw g l)=Cy g en A (fun l=>Pr g en A n (Aw g (GS g en A l))) (Aw g l):=rfl;rw[e]at hp ⊢;rcases Ld (g:=g) (en:=en) (A:=A) (SUB:=fun l=>Pr g en A n (Aw g (GS g en A l))) (rows:=Aw g l) with h1 | ⟨h1,h2⟩ | ⟨y,h1,h2⟩
  ·rw[h1]at hp;simp at hp
  ·exact Rz h hn h1 h2
  ·rw[h2]at hp ⊢;exact Rv h hn n hp
noncomputable def Cm(g:Gr)(en:List (List Bool))(ag:Int):List Int:=if Tn g en ag=true then Pr g en ag.toNat (Ad g) (Cd g) else []
/-! some nodes as the bits of a number -/
def KV(bits n:Nat):List Int:=((List.range n).filter (fun i=>bits.testBit i)).map (fun k:Nat=>(k:Int))
theorem UC(P:Nat→Bool):∀n,∃bits,bits<2 ^ n∧∀i,i<n→bits.testBit i=P i
 | 0=>⟨0,by simp,fun i h=>by omega⟩
 | n+1=>by
  obtain⟨b,hb,h⟩:=UC P n;cases hP:P n
  ·refine⟨b,by rw[Nat.pow_succ];omega,fun i hi=>?_⟩;by_cases hin:i=n
   ·subst hin;rw[hP];exact Nat.testBit_lt_two_pow hb
   ·exact h i (by omega)
  ·refine⟨b ||| 2 ^ n,Nat.or_lt_two_pow (by rw[Nat.pow_succ];omega) (by rw[Nat.pow_succ];have:=Nat.pow_pos (n:=n) (show 0<2 by omega);omega),fun i hi=>?_⟩;rw[Nat.testBit_or,Nat.testBit_two_pow];by_cases hin:i=n
   ·subst hin;rw[hP,Nat.testBit_lt_two_pow hb];simp
   ·rw[h i (by omega),Cj (by omega)];simp
theorem RZ{g:Gr}(h:Rt g)(hn:g.S.length≤100000){l:List Bool}{r:List Int}(hr:r∈Aw g l):∃bits,0<bits∧bits<2 ^ Ad g∧r=KV bits (Ad g):=by
 obtain⟨j,hj,hin,rfl⟩:=(IG h hn).1 hr;obtain⟨b,hb,hP⟩:=UC (fun k=>l.getD k false&&decide (DR (Bg g l) k=DR (Bg g l) j)) (Ad g);refine⟨b,?_,hb,?_⟩
 ·refine Nat.pos_of_ne_zero fun e=>?_;have:=hP j hj;rw[e,Nat.zero_testBit,hin]at this;simp at this
 ·unfold Sv KV
  congr 1
  exact List.filter_congr fun k hk=>(hP k (Cg.1 hk)).symm
noncomputable def EC(g:Gr)(en:List (List Bool))(ag:Int):List Int:=if Tn g en ag=true then DN (Bb g en GQ ag.toNat) (Cd g) else []
open Classical in
theorem Nu{g:Gr}{en:List (List Bool)}{ag:Int}(h:Tn g en ag=true):RT g en ag:=of_decide_eq_true h
theorem RT.nat{g:Gr}{en:List (List Bool)}{ag:Int}(h:RT g en ag):∃A:Nat,ag=(A:Int)∧A≤100∧∀i,i<en.length→(en.getD i []).length=A:=
 ⟨ag.toNat,by have:=h.h0;omega,by have:=h.h1;have:=h.h0;omega,fun i hi=>by have:=h.rows i hi;have:=h.h0;omega⟩
theorem YD(v u:Value)(g:Gr)(en:List (List Bool))(ag:Int)(w:World)(h:Ao w v g)(hu:AO w u en)(hn:Ad g≤100000):
 Calls Tryz.prog 23 #[v,u,.int .i64 ag] w (DC w (EC g en ag)):=by
 obtain⟨sa,aa,ta,sc,ac,tc,rfl,-⟩:=h.var;have hb:=Ae w (.cells #[.slice sa g.S.length sc,.slice aa g.A.length ac,.slice ta g.T.length tc] 32);have HB:=Aa hb;have X0:=Aa (Ar w (.cells #[.slice sa g.S.length sc,.slice aa g.A.length ac,.slice ta g.T.length tc] 32));have HR:=Aa (QN _ u g en ag _ (h.below hb) (hu.below hb));cases hr:Tn g en ag
 ·have E:EC g en ag=[]:=by unfold EC;rw[hr];rfl
  rw[hr]at HR;rw[E];clear h hb hu hr E;go_enter Tryz.func23,Tryz.ntmps23;go_wp2_with (go_at_call 42;refine HR.out.mono ?_;rintro e w1 ⟨rfl,hb1⟩;have HB1:=Aa (HB.out.trans (hb1.mono HB.out.size));clear hb1)
  go_ret;exact⟨_,rfl,BM _,HB1.out⟩
 have hRT:=Nu hr;obtain⟨A,rfl,hA,hrows⟩:=hRT.nat;have E:EC g en (A:Nat)=DN (Bb g en GQ A) (Cd g):=by unfold EC;rw[hr,if_pos rfl,BT]
 rw[hr]at HR;rw[E];have hlen:=hRT.len;have HI:=Aa (fun k (hk:k<(Cd g).length)=>IY (Ou hk));have HF:=Aa (fun(w':World) (hb:Below w.heap.size w w') (pv:Value) (part:List Int) (hp:Am w' pv part) (hi:part.length≤Ad g∧∀x∈part,0≤x∧x<(Ad g:Int))=>
  Ok _ u pv g en A part w' (h.below hb) (hu.below hb) hp hA hrows (fun x hx=>by have:=hi.2 x hx;omega) (by omega) (by omega))
 have HG:=Aa (fun(w':World) (hb:Below w.heap.size w w')=>Tj _ g w' (h.below hb) hn);have GL:=SP g;obtain⟨ua,uc,rfl,-⟩:=hu;have FA:=Aa (fun k hk ha hp=>Pp (p:=Bb g en GQ A) (rows:=Cd g) (k:=k) hk ha hp);have FN:=Aa (SY (p:=Bb g en GQ A) (rows:=Cd g));rw[← Pg]at HG;clear h hb hr E hRT hlen hrows;generalize Cd g=rows at*;generalize DN (Bb g en GQ A) rows=RES at*;generalize Bb g en GQ A=FB at*;go_enter Tryz.func23,Tryz.ntmps23;go_wp2_with (first
  | (go_at_call 42;refine HR.out.mono ?_;rintro e w1 ⟨rfl,hb1⟩;have HB1:=Aa (HB.out.trans (hb1.mono HB.out.size));have X1:=Aa (Ah hb1 X0.out);obtain⟨c0,c1,c2⟩:=DY X1.out;clear hb1)
  | (go_at_call 43;refine(HG.out _ HB1.out).mono ?_;rintro e w3 ⟨rv,rfl,hr3,hb3⟩;obtain⟨ra,rc,rfl,hr3⟩:=hr3;have HRW:=Aa hr3;have HB4:=Aa (HB1.out.trans (hb3.mono HB1.out.size));have X3:=Aa (Ah hb3 X1.out);clear hb3 hr3))
 clear c0 c1 c2;go_loopg [8] rows.length (fun fu c wr=>∃k:Nat,k+fu=rows.length∧c=.int .i64 k∧(∀j,j<k→FB (rows.getD j [])=false)∧Hid (Below w3.heap.size w3 wr))
 case atStart=>exact⟨0,by omega,rfl,fun j hj=>by omega,Aa (Ak _ _)⟩
 case round=>
  obtain⟨k,hk,rfl,hall,HBR⟩:=hrel;have HAL:=Aa hall;clear hall;by_cases hlt:k<rows.length
  ·have z1:(k:Int)<(rows.length:Int):=by omega
   obtain⟨b1,o1,pv,rfl,d1,hp⟩:=HRW.out k hlt;have hi:=HI.out k hlt;have y1:=Af HBR.out d1;have hx:=Ah HBR.out X3.out;obtain⟨c0,c1,c2⟩:=DY hx;have HBW:=Aa (HB4.out.trans (HBR.out.mono HB4.out.size));have HPV:=Aa (hp.below HBR.out);have HFF:=Aa (fun(i:Bk wr)=>HF.out i.1 (HBW.out.trans (i.2.mono HBW.out.size)) pv (rows.getD k []) (HPV.out.below i.2) hi);have HAT:=Aa (FA.out k hlt HAL.out);have HNX:Hid (FB (rows.getD k [])=false→∀a,a<k+1→FB (rows.getD a [])=false):=Aa (fun hne a ha=>by
    by_cases e:a=k
    ·rw[e];exact hne
    ·exact HAL.out a (by omega))
   clear d1 hx hp hi;generalize rows.getD k []=part at*;obtain⟨pa,pc,rfl,hpp⟩:=HPV.out;have HPP:=Aa hpp;clear hpp;have f0:∀i:Bk wr,i.1.cell? ⟨w.heap.size,0,none⟩=some (.slice sa g.S.length sc):=fun i=>i.cell c0;have f1:∀i:Bk wr,i.1.cell? ⟨w.heap.size,1,none⟩=some (.slice aa g.A.length ac):=fun i=>i.cell c1;have f2:∀i:Bk wr,i.1.cell? ⟨w.heap.size,2,none⟩=some (.slice ta g.T.length tc):=fun i=>i.cell c2;have f3:∀i:Bk wr,i.1.cell? ⟨b1,o1+k,none⟩=some (.slice pa part.length pc):=fun i=>i.cell y1;cases hf:FB part
   ·rw[hf]at HFF;go_wp2_with fail
    refine AD (by kernel_rfl) (by kernel_rfl) ?_;repeat (go_big_quiet_step ((go_at_call 44;exact Calls.sub_of (HFF.out _))))
    refine wpQuiet_nil ?_;intro w4 hb4;have HB5:=Aa (HBR.out.trans (hb4.mono HBR.out.size));clear hb4;go_wp2_with fail
    go_roundg (rows.length - (k+1))
    case measure=>omega
    case rel=>exact⟨k+1,by omega,by simp,HNX.out hf,HB5⟩
   ·rw[hf]at HFF;have E:=Aa (HAT.out hf);go_wp2_with fail
    refine AD (by kernel_rfl) (by kernel_rfl) ?_;repeat (go_big_quiet_step ((go_at_call 44;exact Calls.sub_of (HFF.out _))))
    refine wpQuiet_nil ?_;intro w4 hb4;have HB5:=Aa (HBW.out.trans (hb4.mono HBW.out.size));have HP5:=Aa (HPV.out.below hb4);have y4:=Af hb4 y1;clear hb4;go_wp2_with fail
    go_ret;exact⟨_,rfl,by rw[E.out];exact HP5.out,HB5.out⟩
  ·obtain rfl:k=rows.length:=by omega
   have E:=Aa (FN.out HAL.out);go_wp2_with fail
   go_ret;exact⟨_,rfl,by rw[E.out];exact BM _,HB4.out.trans (HBR.out.mono HB4.out.size)⟩
theorem FT{l:List Int}{k:Nat}(h:k<l.length):l.take (k+1)=l.take k++[l.getD k 0]:=by
 rw[List.take_add_one,AM,Bf h];rfl
theorem PC(n:Nat):BV n (fun _=>false)=List.replicate n false:=by unfold BV;simp[List.map_const']
structure Tl(w wr:World)(tc:Array Value)(ty:TypeId)(l:List Bool):Prop where
 below:Below w.heap.size w wr
 vt:wr.heap[w.heap.size]?=some (.cells tc ty (0,0))
 blk:wr.heap[w.heap.size+1]?=some (.cells (bools l) 4 (0,0))
section
variable {w wr:World} {tc:Array Value} {ty:TypeId} {l:List Bool}
theorem Tl.set(h:Tl w wr tc ty l)(q:Nat)(b:Bool):Tl w (wr.setCell ⟨w.heap.size+1,q,none⟩ (.bool b)) tc ty (l.set q b):=by
 refine⟨h.below.setCell (p:=⟨w.heap.size+1,q,none⟩) (Nat.le_succ _) _,?_,?_⟩
 ·rw[Below.heap_setCell _ _ _ _ (by simp)];exact h.vt
 ·rw[Ac h.blk,EW]
theorem Tl.cell(h:Tl w wr tc ty l){q:Nat}(hq:q<l.length):wr.cell? ⟨w.heap.size+1,q,none⟩=some (.bool (l.getD q false)):=Ab h.blk q _ (Co _ q hq)
theorem Tl.free(h:Tl w wr tc ty l)(q:Nat):wr.frozen? ⟨w.heap.size+1,q,none⟩=false:=Ag h.blk q
theorem Tl.same(h:Tl w wr tc ty l){l':List Bool}(e:l=l'):Tl w wr tc ty l':=e▸h
end
def XR(g:Gr)(en:List (List Bool))(part:List Int)(a:Nat)(x:Nat):Bool:=decide ((x:Int)∈part)&&(List.range a).all (fun a=>FC g part a || !(en.getD x []).getD a false)
def XW(g:Gr)(en:List (List Bool))(part:List Int)(a j:Nat)(x:Nat):Bool:=XR g en part a x&&!(decide ((x:Int)∈part.take j)&&(en.getD x []).getD a false)
theorem ZT{g:Gr}{en:List (List Bool)}{part:List Int}{a:Nat}(h:FC g part a=true)(x:Nat):XR g en part a x=XR g en part (a+1) x:=by
 unfold XR;rw[List.range_succ,List.all_append];simp[h]
theorem cK{g:Gr}{en:List (List Bool)}{part:List Int}{a:Nat}(h:FC g part a=false)(x:Nat):XW g en part a part.length x=XR g en part (a+1) x:=by
 unfold XW XR;rw[List.range_succ,List.all_append,Ez];by_cases hx:(x:Int)∈part
 ·simp[h,hx]
 ·simp[hx]
theorem Yg{g:Gr}{en:List (List Bool)}{part:List Int}{a:Nat}(x:Nat):XR g en part a x=XW g en part a 0 x:=by
 unfold XW;simp
theorem bK{g:Gr}{en:List (List Bool)}{part:List Int}{a j q:Nat}(hj:j<part.length)(hq:part.getD j 0=(q:Int))(he:(en.getD q []).getD a false=true)(x:Nat):Bx (XW g en part a j) q false x=XW g en part a (j+1) x:=by
 unfold XW;rw[FT hj,hq];by_cases e:x=q
 ·rw[e,AS,he];simp
 ·rw[AE _ _ _ _ e];have:((x:Int)∈part.take j)↔((x:Int)∈part.take j++[(q:Int)]):=by
   rw[CJ,Ds];exact⟨.inl,fun h=>h.elim id (fun h=>absurd (by omega) e)⟩
  rw[Dz this]
theorem dY{g:Gr}{en:List (List Bool)}{part:List Int}{a j q:Nat}(hj:j<part.length)(hq:part.getD j 0=(q:Int))(he:(en.getD q []).getD a false=false)(x:Nat):XW g en part a j x=XW g en part a (j+1) x:=by
 unfold XW;rw[FT hj,hq];by_cases e:x=q
 ·rw[e,he];simp
 ·have:((x:Int)∈part.take j)↔((x:Int)∈part.take j++[(q:Int)]):=by
   rw[CJ,Ds];exact⟨.inl,fun h=>h.elim id (fun h=>absurd (by omega) e)⟩
  rw[Dz this]
def cS(part:List Int)(k:Nat)(x:Nat):Bool:=decide ((x:Int)∈part.take k)
theorem YF{part:List Int}{k q:Nat}(hk:k<part.length)(hq:part.getD k 0=(q:Int))(x:Nat):Bx (cS part k) q true x=cS part (k+1) x:=by
 unfold cS;rw[FT hk,hq];by_cases e:x=q
 ·rw[e,AS];simp
 ·rw[AE _ _ _ _ e];have:((x:Int)∈part.take k)↔((x:Int)∈part.take k++[(q:Int)]):=by
   rw[CJ,Ds];exact⟨.inl,fun h=>h.elim id (fun h=>absurd (by omega) e)⟩
  rw[Dz this]
theorem bG (v u pv:Value) (g:Gr) (en:List (List Bool)) (A:Nat) (part:List Int) (w:World) (h:Ao w v g) (hu:AO w u en) (hp:Am w pv part) (hA:A≤100)
 (hrows:∀i,i<en.length→(en.getD i []).length=A) (hin:∀x∈part,0≤x∧x<(en.length:Int)) (hel:en.length≤1000000) (hl:part.length≤1000000):
 Calls Tryz.prog 77 #[v,u,.int .i64 (A:Nat),pv] w (Vp w (GS g en A part)):=by
 obtain⟨sa,aa,ta,sc,ac,tc,rfl,-⟩:=h.var;have hb:=Ae w (.cells #[.slice sa g.S.length sc,.slice aa g.A.length ac,.slice ta g.T.length tc] 32);have HX:=Aa (fun(w':World) (hb:Below w.heap.size w w') (k:Nat)=>NQ _ pv g part (k:Int) w' (h.below hb) (hp.below hb) hl);have HB:=Aa hb;have X0:=Aa (Ar w (.cells #[.slice sa g.S.length sc,.slice aa g.A.length ac,.slice ta g.T.length tc] 32));obtain⟨ua,uc,rfl,hrow⟩:=hu;have HRW:=Aa hrow;have HRL:=Aa hrows;have HIN:=Aa (fun k (hk:k<part.length)=>hin _ (Ch hk));have IS:=Aa (fun k (q:Nat) (hk:k<part.length) (hq:part.getD k 0=(q:Int))=>YF hk hq);have I0:Hid (BV en.length (cS part 0)=List.replicate en.length false):=Aa (by
  rw[← PC];exact Cs fun x _=>by unfold cS;simp)
 have IE:Hid (∀x,cS part part.length x=XR g en part 0 x):=Aa (fun x=>by unfold cS XR;rw[Ez];simp);have LA:=Aa (fun(a:Nat) x (h:FC g part a=true)=>ZT (en:=en) h x);have LE:=Aa (fun(a:Nat) x (h:FC g part a=false)=>cK (en:=en) h x);have LZ:=Aa (fun a x=>Yg (g:=g) (en:=en) (part:=part) (a:=a) x);have LY:=Aa (fun a j (q:Nat) (hj:j<part.length) (hq:part.getD j 0=(q:Int)) (he:(en.getD q []).getD a false=true) x=>bK (g:=g) hj hq he x);have LN:=Aa (fun a j (q:Nat) (hj:j<part.length) (hq:part.getD j 0=(q:Int)) (he:(en.getD q []).getD a false=false) x=>dY (g:=g) hj hq he x);have EL:GS g en A part=BV en.length (XR g en part A):=rfl;rw[EL];obtain⟨pa,pc,rfl,hpc⟩:=hp;have HP:=Aa hpc;clear h hb hin hrow hrows hpc EL;generalize XR g en part=LT at*;generalize XW g en part=LJ at*;generalize cS part=IT at*;generalize FC g part=AF at*;obtain⟨n,hnn⟩:∃n,part.length=n:=⟨_,rfl⟩;rw[hnn]at HP hl HIN IS IE LE LY LN HX ⊢;clear hnn;obtain⟨N,hN⟩:∃N,en.length=N:=⟨_,rfl⟩;rw[hN]at HRW HRL HIN I0 hel ⊢;clear hN;go_enter Tryz.func77,Tryz.ntmps77;go_wp2_with (at_make;refine BE _ rfl (.tmp 14) (.tmp 14) 56 rfl 4 (.bool false) rfl 1 Tryz.underlying56 Tryz.info4 .i64 .i64 (N:Nat) (N:Nat) N rfl rfl rfl rfl (by omega) (by unfold maxLen;omega) ?_;intro w3 hh3 hb3 hlt3;have M0:=Aa (show Tl w w3 _ 32 (BV N (IT 0)) from⟨HB.out.trans (hb3.mono HB.out.size),Ah hb3 X0.out,by rw[I0.out,BJ];simpa using hh3⟩);clear hb3 hh3 hlt3)
 clear HB X0;go_loopg [10] n (fun fu c wr=>∃k:Nat,k+fu=n∧c=.int .i64 k∧Hid (Tl w wr #[.slice sa g.S.length sc,.slice aa g.A.length ac,.slice ta g.T.length tc] 32 (BV N (IT k))))
 case atStart=>exact⟨0,by omega,rfl,M0⟩
 case round=>
  clear M0;obtain⟨k,hk,rfl,HM⟩:=hrel;by_cases hlt:k<n
  ·have z1:(k:Int)<(n:Int):=by omega
   obtain⟨b1,o1,rfl,d1⟩:=HP.out k hlt;have hi:=HIN.out k hlt;have HIS:=Aa (IS.out k (part.getD k 0).toNat hlt (by omega));have y1:=Af HM.out.below d1;clear d1;generalize part.getD k 0=p at*;obtain⟨q,rfl⟩:∃q:Nat,p=(q:Int):=⟨p.toNat,by omega⟩;rw[BT]at HIS;have hq:q<N:=by omega
   have z3:(q:Int)<(N:Int):=by omega
   have y2:=HM.out.cell (q:=q) (by rw[AJ];exact hq);have f2:=HM.out.free q;have HM1:=Aa ((HM.out.set q true).same (l':=BV N (IT (k+1))) (by rw[Gq];exact Cs fun x _=>HIS.out x));generalize (BV N (IT k)).getD q false=vb at*;go_wp2_with fail
   go_roundg (n - (k+1))
   case measure=>omega
   case rel=>exact⟨k+1,by omega,by simp,HM1⟩
  ·obtain rfl:k=n:=by omega
   have HM0:=Aa (HM.out.same (l':=BV N (LT 0)) (Cs fun x _=>IE.out x));obtain⟨W,rfl⟩:∃z:World,z=wr:=⟨_,rfl⟩;go_wp2_with fail
   clear HM;go_loopg [11] A (fun fu c wr=>∃a:Nat,a+fu=A∧c=.int .i64 a∧Hid (Tl w wr #[.slice sa g.S.length sc,.slice aa g.A.length ac,.slice ta g.T.length tc] 32 (BV N (LT a))))
   case atStart=>exact⟨0,by omega,rfl,HM0⟩
   case round=>
    clear HM0;obtain⟨a,hA1,rfl,HM⟩:=hrel;by_cases hlt2:a<A
    ·have z2:(a:Int)<(A:Int):=by omega
     have HXX:=Aa (HX.out wr HM.out.below a);obtain⟨c0,c1,c2⟩:=DY HM.out.vt;cases hac:AF (a:Int)
     ·rw[hac]at HXX;have HE:=Aa (fun x=>LE.out a x hac);clear hac;go_wp2_with (go_at_call 74;refine HXX.out.mono ?_;rintro e w4 ⟨rfl,hb4⟩;have HM4:=Aa (show Tl w w4 #[.slice sa g.S.length sc,.slice aa g.A.length ac,.slice ta g.T.length tc] 32 (BV N (LJ a 0)) from⟨HM.out.below.trans (hb4.mono HM.out.below.size),Ah hb4 HM.out.vt,by rw[← show BV N (LT a)=BV N (LJ a 0) from Cs fun x _=>LZ.out a x];exact Ah hb4 HM.out.blk⟩);clear hb4)
      clear c0 c1 c2;go_loopg [12] k (fun fu c wr=>∃j:Nat,j+fu=k∧c=.int .i64 j∧Hid (Tl w wr #[.slice sa g.S.length sc,.slice aa g.A.length ac,.slice ta g.T.length tc] 32 (BV N (LJ a j))))
      case atStart=>exact⟨0,by omega,rfl,HM4⟩
      case round=>
       clear HM4;obtain⟨j,hj,rfl,HM⟩:=hrel;by_cases hlt3:j<k
       ·have z3:(j:Int)<(k:Int):=by omega
        obtain⟨b1,o1,rfl,d1⟩:=HP.out j hlt3;have hi:=HIN.out j hlt3;have HLY:=Aa (LY.out a j (part.getD j 0).toNat hlt3 (by omega));have HLN:=Aa (LN.out a j (part.getD j 0).toNat hlt3 (by omega));have y1:=Af HM.out.below d1;clear d1;generalize part.getD j 0=p at*;obtain⟨q,rfl⟩:∃q:Nat,p=(q:Int):=⟨p.toNat,by omega⟩;rw[BT]at HLY HLN;have hq:q<N:=by omega
        have z4:(q:Int)<(N:Int):=by omega
        obtain⟨b2,o2,uu,rfl,c2,r2⟩:=HRW.out q hq;have hrl:=HRL.out q hq;obtain⟨ra,rc,rfl,r2⟩:=r2;rw[hrl]at r2 c2;obtain⟨b3,o3,rfl,d3⟩:=r2 a hlt2;have y2:=Af HM.out.below c2;have y3:=Af HM.out.below d3;have y4:=HM.out.cell (q:=q) (by rw[AJ];exact hq);have f2:=HM.out.free q;have HMS:=Aa (HM.out.set q false);clear c2 r2 d3 hi hrl;generalize (BV N (LJ a j)).getD q false=vb at*;cases hx:(en.getD q []).getD a false
        ·rw[hx]at y3;have HM1:=Aa (HM.out.same (l':=BV N (LJ a (j+1))) (Cs fun x _=>HLN.out hx x));clear hx;go_wp2_with fail
         go_roundg (k - (j+1))
         case measure=>omega
         case rel=>exact⟨j+1,by omega,by simp,HM1⟩
        ·rw[hx]at y3;have HM1:=Aa (HMS.out.same (l':=BV N (LJ a (j+1))) (by rw[Gq];exact Cs fun x _=>HLY.out hx x));clear hx;go_wp2_with fail
         go_roundg (k - (j+1))
         case measure=>omega
         case rel=>exact⟨j+1,by omega,by simp,HM1⟩
       ·obtain rfl:j=k:=by omega
        have HM1:=Aa (HM.out.same (l':=BV N (LT (a+1))) (Cs fun x _=>HE.out x));go_wp2_with fail
        go_roundg (A - (a+1))
        case measure=>omega
        case rel=>exact⟨a+1,by omega,by simp,HM1⟩
     ·rw[hac]at HXX;have HE:=Aa (fun x=>LA.out a x hac);clear hac;go_wp2_with (go_at_call 74;refine HXX.out.mono ?_;rintro e w4 ⟨rfl,hb4⟩;have HM4:=Aa (show Tl w w4 #[.slice sa g.S.length sc,.slice aa g.A.length ac,.slice ta g.T.length tc] 32 (BV N (LT (a+1))) from⟨HM.out.below.trans (hb4.mono HM.out.below.size),Ah hb4 HM.out.vt,by rw[← show BV N (LT a)=BV N (LT (a+1)) from Cs fun x _=>HE.out x];exact Ah hb4 HM.out.blk⟩);clear hb4)
      go_roundg (A - (a+1))
      case measure=>omega
      case rel=>exact⟨a+1,by omega,by simp,HM4⟩
    ·obtain rfl:a=A:=by omega
     go_wp2_with fail
     go_ret;exact⟨_,rfl,CH (n:=N) HM.out.blk (by rw[AJ]) N,HM.out.below⟩
theorem cC{rows:List (List Int)}{k:Nat}(h:k<rows.length):rows.drop k=rows.getD k []::rows.drop (k+1):=by
 rw[List.drop_eq_getElem_cons h,AM,Bf h];rfl
structure MR where
 rel:Value→World→Prop
 mono:∀v w w',Below w.heap.size w w'→rel v w→rel v w'
def MR.of(k:RK):MR:=⟨k.rel,fun _ _ _ hb h=>k.mono hb h⟩
def MR.one(x:Value)(t:TypeId):MR:=⟨fun v w=>∃b,v=.slice (some ⟨b,0,none⟩) 1 1∧w.heap[b]?=some (.cells #[x] t (0,0)),fun _ _ _ hb ⟨b,e,h⟩=>⟨b,e,Ah hb h⟩⟩
def Tx(ks:List MR)(j:Nat)(v:Value)(w:World):Prop:=(ks.getD j (MR.of (.eq undef))).rel v w
theorem GU{ks:List MR}{j:Nat}{v:Value}{w w':World}(hb:Below w.heap.size w w')(h:Tx ks j v w):Tx ks j v w':=MR.mono _ _ _ _ hb h
theorem Kv (SUB:List Int→List Int) (v u iv:Value) (g:Gr) (en:List (List Bool)) (A:Nat) (inl:List Bool) (w:World) (h:Ao w v g) (hu:AO w u en) (hiv:Bc w iv inl) (hA:A≤100)
 (hrows:∀i,i<en.length→(en.getD i []).length=A) (hel:en.length≤1000000) (hil:inl.length=en.length)
 (IH:∀l∈Aw g inl,CV g l=true→Bb g en Ga A l=false→∀(w':World) (nv:Value),Below w.heap.size w w'→Bc w' nv (GS g en A l)→Calls Tryz.prog 45 #[v,u,.int .i64 (A:Nat),nv] w' (DC w' (SUB l))):
 Calls Tryz.prog 45 #[v,u,.int .i64 (A:Nat),iv] w (DC w (Cy g en A SUB (Aw g inl))):=by
 have hW:∀r∈Aw g inl,r.length≤100000∧∀x∈r,0≤x∧x<(en.length:Int):=fun r hr=>by
  obtain⟨-,h1,h2⟩:=Gt hr;refine⟨h1,fun x hx=>?_⟩;obtain⟨i,rfl,h3,-⟩:=h2 x hx;omega
 obtain⟨sa,aa,ta,sc,ac,tc,rfl,-⟩:=h.var;have hb:=Ae w (.cells #[.slice sa g.S.length sc,.slice aa g.A.length ac,.slice ta g.T.length tc] 32);have HB:=Aa hb;have X0:=Aa (Ar w (.cells #[.slice sa g.S.length sc,.slice aa g.A.length ac,.slice ta g.T.length tc] 32));have HWI:Hid (Calls Tryz.prog 76 #[.agg #[.slice sa g.S.length sc,.slice aa g.A.length ac,.slice ta g.T.length tc],iv] (w.alloc (.cells #[.slice sa g.S.length sc,.slice aa g.A.length ac,.slice ta g.T.length tc] 32)) (GX (w.alloc (.cells #[.slice sa g.S.length sc,.slice aa g.A.length ac,.slice ta g.T.length tc] 32)) (Aw g inl))):=Aa (by rw[Le];exact Mf _ iv g inl _ (h.below hb) (hiv.below hb) (by omega));have HC:=Aa (fun(w':World) (hb:Below w.heap.size w w') (pv:Value) (part:List Int) (hp:Am w' pv part) (hi:part.length≤100000∧∀x∈part,0≤x∧x<(en.length:Int))=>QI _ pv g part w' (h.below hb) hp (by omega));have HF:=Aa (fun(w':World) (hb:Below w.heap.size w w') (pv:Value) (part:List Int) (hp:Am w' pv part) (hi:part.length≤100000∧∀x∈part,0≤x∧x<(en.length:Int))=>
  Ki _ u pv g en A part w' (h.below hb) (hu.below hb) hp hA hrows hi.2 hel (by omega))
 have HL:=Aa (fun(w':World) (hb:Below w.heap.size w w') (pv:Value) (part:List Int) (hp:Am w' pv part) (hi:part.length≤100000∧∀x∈part,0≤x∧x<(en.length:Int))=>
  bG _ u pv g en A part w' (h.below hb) (hu.below hb) hp hA hrows hi.2 hel (by omega))
 have HIH:=Aa (fun k (hk:k<(Aw g inl).length)=>IH _ (Ou hk));have HW:=Aa (fun k (hk:k<(Aw g inl).length)=>hW _ (Ou hk));have GL:=Sj g inl;have HD:=Aa (fun k (hk:k<(Aw g inl).length)=>cC hk);have PS:=Aa (fun l rest (h:CV g l=false)=>JR (en:=en) (A:=A) (SUB:=SUB) (rest:=rest) h);have PF:=Aa (fun l rest (h:CV g l=true) (h2:Bb g en Ga A l=true)=>Na (SUB:=SUB) (rest:=rest) h h2);have PU:=Aa (fun l rest (h:CV g l=true) (h2:Bb g en Ga A l=false) (h3:0<(SUB l).length)=>PD (rest:=rest) h h2 h3);have PN:=Aa (fun l rest (h:CV g l=true) (h2:Bb g en Ga A l=false) (h3:¬0<(SUB l).length)=>Ox (rest:=rest) h h2 h3);have P0:Hid (Cy g en A SUB []=[]):=Aa rfl;obtain⟨ua,uc,rfl,-⟩:=hu;obtain⟨ia,ic,rfl,-⟩:=hiv;clear h hb hrows IH hW hil;generalize Aw g inl=rows at*;generalize Cy g en A SUB=PK at*;generalize Bb g en Ga A=FB at*;generalize CV g=CY at*;generalize GS g en A=LS at*;go_enter Tryz.func45,Tryz.ntmps45;go_wp2_with (first
  | (go_at_call 76;refine HWI.out.mono ?_;rintro e w3 ⟨rv,rfl,hr3,hb3⟩;obtain⟨ra,rc,rfl,hr3⟩:=hr3;have HRW:=Aa hr3;have HB4:=Aa (HB.out.trans (hb3.mono HB.out.size));have X3:=Aa (Ah hb3 X0.out);clear hb3 hr3))
 clear HWI;go_loopg [10] rows.length (fun fu c wr=>∃k:Nat,k+fu=rows.length∧c=.int .i64 k∧Hid (PK rows=PK (rows.drop k))∧Hid (Below w3.heap.size w3 wr))
 case atStart=>exact⟨0,by omega,rfl,Aa rfl,Aa (Ak _ _)⟩
 case round=>
  obtain⟨k,hk,rfl,HPK,HBR⟩:=hrel;by_cases hlt:k<rows.length
  ·have z1:(k:Int)<(rows.length:Int):=by omega
   obtain⟨b1,o1,pv,rfl,d1,hp⟩:=HRW.out k hlt;have hi:=HW.out k hlt;have HDK:=Aa (HD.out k hlt);have y1:=Af HBR.out d1;have hx:=Ah HBR.out X3.out;obtain⟨c0,c1,c2⟩:=DY hx;have HBW:=Aa (HB4.out.trans (HBR.out.mono HB4.out.size));have HPV:=Aa (hp.below HBR.out);have HCC:=Aa (fun(i:Bk wr)=>HC.out i.1 (HBW.out.trans (i.2.mono HBW.out.size)) pv (rows.getD k []) (HPV.out.below i.2) hi);have HFF:=Aa (fun(w':World) (hw:Below wr.heap.size wr w')=>HF.out w' (HBW.out.trans (hw.mono HBW.out.size)) pv (rows.getD k []) (HPV.out.below hw) hi);have HLL:=Aa (fun(w':World) (hw:Below wr.heap.size wr w')=>HL.out w' (HBW.out.trans (hw.mono HBW.out.size)) pv (rows.getD k []) (HPV.out.below hw) hi);have HII:=Aa (HIH.out k hlt);clear d1 hx hp hi;generalize rows.getD k []=part at*;obtain⟨pa,pc,rfl,hpp⟩:=HPV.out;have HPP:=Aa hpp;clear hpp;have f0:∀i:Bk wr,i.1.cell? ⟨w.heap.size,0,none⟩=some (.slice sa g.S.length sc):=fun i=>i.cell c0;have f1:∀i:Bk wr,i.1.cell? ⟨w.heap.size,1,none⟩=some (.slice aa g.A.length ac):=fun i=>i.cell c1;have f2:∀i:Bk wr,i.1.cell? ⟨w.heap.size,2,none⟩=some (.slice ta g.T.length tc):=fun i=>i.cell c2;have f3:∀i:Bk wr,i.1.cell? ⟨b1,o1+k,none⟩=some (.slice pa part.length pc):=fun i=>i.cell y1;cases hc:CY part
   ·rw[hc]at HCC;have E:Hid (PK rows=PK (rows.drop (k+1))):=Aa (by rw[HPK.out,HDK.out];exact PS.out _ _ hc);go_wp2_with fail
    refine AD (by kernel_rfl) (by kernel_rfl) ?_;repeat (go_big_quiet_step ((go_at_call 75;exact Calls.sub_of (HCC.out _))))
    refine wpQuiet_nil ?_;intro w4 hb4;have HB5:=Aa (HBR.out.trans (hb4.mono HBR.out.size));clear hb4;go_wp2_with fail
    go_roundg (rows.length - (k+1))
    case measure=>omega
    case rel=>exact⟨k+1,by omega,by simp,E,HB5⟩
   ·rw[hc]at HCC;go_wp2_with fail
    refine AD (by kernel_rfl) (by kernel_rfl) ?_;repeat (go_big_quiet_step ((go_at_call 75;exact Calls.sub_of (HCC.out _))))
    refine wpQuiet_nil ?_;intro w4 hb4;have HB5:=Aa (HBR.out.trans (hb4.mono HBR.out.size));have HP5:=Aa (HPV.out.below hb4);have HFF2:=Aa (fun(i:Bk w4)=>HFF.out i.1 (hb4.trans (i.2.mono hb4.size)));have HLL2:=Aa (fun(w':World) (hw:Below w4.heap.size w4 w')=>HLL.out w' (hb4.trans (hw.mono hb4.size)));obtain⟨y4,d0,d1,d2⟩:=Zf hb4 y1 c0 c1 c2;have HBW4:=Aa (HBW.out.trans (hb4.mono HBW.out.size));clear hb4 f0 f1 f2 f3 c0 c1 c2 y1;have f0:∀i:Bk w4,i.1.cell? ⟨w.heap.size,0,none⟩=some (.slice sa g.S.length sc):=fun i=>i.cell d0;have f1:∀i:Bk w4,i.1.cell? ⟨w.heap.size,1,none⟩=some (.slice aa g.A.length ac):=fun i=>i.cell d1;have f2:∀i:Bk w4,i.1.cell? ⟨w.heap.size,2,none⟩=some (.slice ta g.T.length tc):=fun i=>i.cell d2;have f3:∀i:Bk w4,i.1.cell? ⟨b1,o1+k,none⟩=some (.slice pa part.length pc):=fun i=>i.cell y4;cases hf:FB part
    ·rw[hf]at HFF2;go_wp2_with fail
     refine AD (by kernel_rfl) (by kernel_rfl) ?_;repeat (go_big_quiet_step ((go_at_call 44;exact Calls.sub_of (HFF2.out _))))
     refine wpQuiet_nil ?_;intro w5 hb5;have HB6:=Aa (HB5.out.trans (hb5.mono HB5.out.size));have HP6:=Aa (HP5.out.below hb5);have HLL3:=Aa (fun(w':World) (hw:Below w5.heap.size w5 w')=>HLL2.out w' (hb5.trans (hw.mono hb5.size)));have HBW5:=Aa (HBW4.out.trans (hb5.mono HBW4.out.size));obtain⟨y5,e0,e1,e2⟩:=Zf hb5 y4 d0 d1 d2;clear hb5 f0 f1 f2 f3 d0 d1 d2 y4;go_wp2_with fail
     refine ER (fun q=>match q with | 11=>u11 | 40=>u40 | 41=>u41 | 42=>u42 | 43=>u43 | 44=>u44 | 45=>u45 | 46=>u46 | 47=>u47 | 48=>u48 | 49=>u49 | 50=>u50 | 51=>u51 | _=>undef)
      (fun f=>{tmps:=#[.agg #[.slice sa g.S.length sc,.slice aa g.A.length ac,.slice ta g.T.length tc],.slice ua en.length uc,.int .i64 (A:Nat),.slice ia inl.length ic,.pointer (some ⟨w.heap.size,0,none⟩),undef,undef,undef,u8,.slice (some ⟨b1,o1,none⟩) rows.length rc,.int .i64 (k:Nat),f 11,.agg #[.slice sa g.S.length sc,.slice aa g.A.length ac,.slice ta g.T.length tc],.slice ia inl.length ic,.slice (some ⟨b1,o1,none⟩) rows.length rc,.int .i64 (k:Nat),.slice (some ⟨b1,o1,none⟩) rows.length rc,.int .i64 (rows.length:Nat),.bool true,u19,u20,.agg #[.slice sa g.S.length sc,.slice aa g.A.length ac,.slice ta g.T.length tc],.slice (some ⟨b1,o1,none⟩) rows.length rc,.int .i64 (k:Nat),.pointer (some ⟨b1,o1+k,none⟩),.slice pa part.length pc,.bool true,.bool false,.agg #[.slice sa g.S.length sc,.slice aa g.A.length ac,.slice ta g.T.length tc],.slice ua en.length uc,.int .i64 (A:Nat),.slice (some ⟨b1,o1,none⟩) rows.length rc,.int .i64 (k:Nat),.pointer (some ⟨b1,o1+k,none⟩),.slice pa part.length pc,.bool false,u36,u37,u38,u39,f 40,f 41,f 42,f 43,f 44,f 45,f 46,f 47,f 48,f 49,f 50,f 51,u52,u53,u54,u55],defers:=[]}) (fun j=>if j=12 then 11 else j+40)
      (dS [.eq (.agg #[.slice sa g.S.length sc,.slice aa g.A.length ac,.slice ta g.T.length tc]),.eq (.slice ua en.length uc),.eq (.int .i64 (A:Nat)),.eq (.agg #[.slice sa g.S.length sc,.slice aa g.A.length ac,.slice ta g.T.length tc]),.eq (.slice ua en.length uc),.eq (.int .i64 (A:Nat)),.eq (.slice (some ⟨b1,o1,none⟩) rows.length rc),.eq (.int .i64 (k:Nat)),.eq (.pointer (some ⟨b1,o1+k,none⟩)),.eq (.slice pa part.length pc),.bools (LS part),.ints (SUB part),.ints (SUB part)])
      rfl (by kernel_rfl) (fun i u w w' hb h=>RK.mono _ hb h) (by kernel_rfl) (by kernel_rfl) ?_ ?_ ?_
     ·intro j hj f v;rcases j with _ | _ | _ | _ | _ | _ | _ | _ | _ | _ | _ | _ | _ | j
      all_goals first | rfl | (simp at hj;omega)
     ·refine⟨?_,?_,?_,?_,?_,?_,?_,?_,?_,?_,?_,?_,?_,trivial⟩
      ·intro f w' hb hd K hK;obtain⟨e0,e1,e2⟩:=JN hb e0 e1 e2;dsimp only;go_simp;exact hK (.agg #[.slice sa g.S.length sc,.slice aa g.A.length ac,.slice ta g.T.length tc]) w' (Ak _ _) rfl
      ·intro f w' hb hd K hK;dsimp only;go_simp;exact hK (.slice ua en.length uc) w' (Ak _ _) rfl
      ·intro f w' hb hd K hK;dsimp only;go_simp;exact hK (.int .i64 (A:Nat)) w' (Ak _ _) rfl
      ·intro f w' hb hd K hK;obtain⟨e0,e1,e2⟩:=JN hb e0 e1 e2;dsimp only;go_simp;exact hK (.agg #[.slice sa g.S.length sc,.slice aa g.A.length ac,.slice ta g.T.length tc]) w' (Ak _ _) rfl
      ·intro f w' hb hd K hK;dsimp only;go_simp;exact hK (.slice ua en.length uc) w' (Ak _ _) rfl
      ·intro f w' hb hd K hK;dsimp only;go_simp;exact hK (.int .i64 (A:Nat)) w' (Ak _ _) rfl
      ·intro f w' hb hd K hK;dsimp only;go_simp;exact hK (.slice (some ⟨b1,o1,none⟩) rows.length rc) w' (Ak _ _) rfl
      ·intro f w' hb hd K hK;dsimp only;go_simp;exact hK (.int .i64 (k:Nat)) w' (Ak _ _) rfl
      ·intro f w' hb hd K hK;have h0:f 46=(.slice (some ⟨b1,o1,none⟩) rows.length rc):=hd 6 (by kernel_rfl);have h1:f 47=(.int .i64 (k:Nat)):=hd 7 (by kernel_rfl);dsimp only;go_simp;have q:=hK (.pointer (some ⟨b1,o1+k,none⟩)) w' (Ak _ _) rfl;simp only[h0,h1]at q;exact q
      ·intro f w' hb hd K hK;have h0:f 48=(.pointer (some ⟨b1,o1+k,none⟩)):=hd 8 (by kernel_rfl);have e5:=Af hb y5;dsimp only;go_simp;have q:=hK (.slice pa part.length pc) w' (Ak _ _) rfl;simp only[h0]at q;exact q
      ·intro f w' hb hd K hK;have h0:f 43=(.agg #[.slice sa g.S.length sc,.slice aa g.A.length ac,.slice ta g.T.length tc]):=hd 3 (by kernel_rfl);have h1:f 44=(.slice ua en.length uc):=hd 4 (by kernel_rfl);have h2:f 45=(.int .i64 (A:Nat)):=hd 5 (by kernel_rfl);have h3:f 49=(.slice pa part.length pc):=hd 9 (by kernel_rfl);have HO:=Aa (HLL3.out w' ((Ak _ w5).drew.trans hb));dsimp only;go_simp;go_wp2_with (go_at_call 77;refine HO.out.mono ?_;rintro e w2 ⟨lv,rfl,hE,hb2⟩)
       have q:=hK lv w2 hb2 hE;simp only[h0,h1,h2,h3]at q;exact q
      ·intro f w' hb hd K hK;have h0:f 40=(.agg #[.slice sa g.S.length sc,.slice aa g.A.length ac,.slice ta g.T.length tc]):=hd 0 (by kernel_rfl);have h1:f 41=(.slice ua en.length uc):=hd 1 (by kernel_rfl);have h2:f 42=(.int .i64 (A:Nat)):=hd 2 (by kernel_rfl);have h3:Bc w' (f 50) (LS part):=hd 10 (by kernel_rfl);have HO:=Aa (HII.out hc hf w' (f 50) (HBW5.out.trans (((Ak _ w5).drew.trans hb).mono HBW5.out.size)) h3);clear h3;dsimp only;go_simp;go_wp2_with (go_at_call 45;refine HO.out.mono ?_;rintro e w2 ⟨lv,rfl,hE,hb2⟩)
       have q:=hK lv w2 hb2 hE;simp only[h0,h1,h2]at q;exact q
      ·intro f w' hb hd K hK;have hE:Am w' (f 51) (SUB part):=hd 11 (by kernel_rfl);dsimp only;go_simp;exact hK (f 51) w' (Ak _ _) hE
     ·intro f w' hb hr;have HB7:=Aa (HB6.out.trans (hb.mono HB6.out.size));obtain⟨xa,xc,hxe,hxc⟩:Am w' (f 11) (SUB part):=hr 12 (by decide);have HX:Hid (Am w' (.slice xa (SUB part).length xc) (SUB part)):=Aa ⟨xa,xc,rfl,hxc⟩;have q0:f 40=(.agg #[.slice sa g.S.length sc,.slice aa g.A.length ac,.slice ta g.T.length tc]):=hr 0 (by decide);have q1:f 41=(.slice ua en.length uc):=hr 1 (by decide);have q2:f 42=(.int .i64 (A:Nat)):=hr 2 (by decide);have q3:f 43=(.agg #[.slice sa g.S.length sc,.slice aa g.A.length ac,.slice ta g.T.length tc]):=hr 3 (by decide);have q4:f 44=(.slice ua en.length uc):=hr 4 (by decide);have q5:f 45=(.int .i64 (A:Nat)):=hr 5 (by decide);have q6:f 46=(.slice (some ⟨b1,o1,none⟩) rows.length rc):=hr 6 (by decide);have q7:f 47=(.int .i64 (k:Nat)):=hr 7 (by decide);have q8:f 48=(.pointer (some ⟨b1,o1+k,none⟩)):=hr 8 (by decide);have q9:f 49=(.slice pa part.length pc):=hr 9 (by decide);simp only[q0,q1,q2,q3,q4,q5,q6,q7,q8,q9,hxe];clear hr hb hxe hxc q0 q1 q2 q3 q4 q5 q6 q7 q8 q9;generalize f 50=u50' at*;generalize f 51=u51' at*;generalize f 11=u11' at*;by_cases h3:0<(SUB part).length
      ·have E:Hid (PK rows=SUB part):=Aa (by rw[HPK.out,HDK.out];exact PU.out _ _ hc hf h3);have z2:(0:Int)<((SUB part).length:Int):=by omega
       go_wp2_with fail
       go_ret;exact⟨_,rfl,by rw[E.out];exact HX.out,HB4.out.trans (HB7.out.mono HB4.out.size)⟩
      ·have E:Hid (PK rows=PK (rows.drop (k+1))):=Aa (by rw[HPK.out,HDK.out];exact PN.out _ _ hc hf h3);have z2:¬(0:Int)<((SUB part).length:Int):=by omega
       go_wp2_with fail
       go_roundg (rows.length - (k+1))
       case measure=>omega
       case rel=>exact⟨k+1,by omega,by simp,E,HB7⟩
    ·rw[hf]at HFF2;have E:Hid (PK rows=part):=Aa (by rw[HPK.out,HDK.out];exact PF.out _ _ hc hf);go_wp2_with fail
     refine AD (by kernel_rfl) (by kernel_rfl) ?_;repeat (go_big_quiet_step ((go_at_call 44;exact Calls.sub_of (HFF2.out _))))
     refine wpQuiet_nil ?_;intro w5 hb5;have HP6:=Aa (HP5.out.below hb5);have HB6:=Aa (HB4.out.trans ((HB5.out.trans (hb5.mono HB5.out.size)).mono HB4.out.size));have y5:=Af hb5 y4;clear hb5;go_wp2_with fail
     go_ret;exact⟨_,rfl,by rw[E.out];exact HP6.out,HB6.out⟩
  ·obtain rfl:k=rows.length:=by omega
   have E:Hid (PK rows=[]):=Aa (by rw[HPK.out,List.drop_length];exact P0.out);go_wp2_with fail
   go_ret;exact⟨_,rfl,by rw[E.out];exact BM _,HB4.out.trans (HBR.out.mono HB4.out.size)⟩
theorem NS(v u:Value)(g:Gr)(en:List (List Bool))(A:Nat)(hA:A≤100)(hrows:∀i,i<en.length→(en.getD i []).length=A)(hel:en.length≤1000000):
 ∀(n:Nat) (inl:List Bool) (iv:Value) (w:World),Ao w v g→AO w u en→Bc w iv inl→inl.length=en.length→(∀r∈Aw g inl,r.length≤n)→
  Calls Tryz.prog 45 #[v,u,.int .i64 (A:Nat),iv] w (DC w (Pr g en A n (Aw g inl)))
 | 0,inl,iv,w,h,hu,hiv,hil,hr=>by
  have e:Cy g en A (fun _=>[]) (Aw g inl)=[]:=by
   have key:∀rows:List (List Int),(∀r∈rows,r.length≤0)→Cy g en A (fun _=>[]) rows=[]:=fun rows h=>by
    induction rows with
    | nil=>rfl
    | cons r rows ih=>
     cases hc:CV g r
     ·rw[JR hc];exact ih fun x hx=>h x (List.mem_cons_of_mem _ hx)
     ·have:=MD hc;have:=h r (List.mem_cons_self ..);omega
   exact key _ hr
  have:=Kv (fun _=>[]) v u iv g en A inl w h hu hiv hA hrows hel hil (fun l hl hc _=>by
   have:=MD hc;have:=hr l hl;omega)
  rw[e]at this;exact this
 | n+1,inl,iv,w,h,hu,hiv,hil,hr=>
  Kv (fun l=>Pr g en A n (Aw g (GS g en A l))) v u iv g en A inl w h hu hiv hA hrows hel hil (fun l hl hc hf w' nv hb hnv=>
   NS v u g en A hA hrows hel n _ nv w' (h.below hb) (hu.below hb) hnv (by unfold GS;rw[AJ]) (fun r hr'=>by
    have h1:=hr l hl;have h2:gZ en l:=fun x hx=>by
     obtain⟨i,rfl,hi,-⟩:=(Gt hl).2.2 x hx;omega
    have h3:=QQ h2 (Pd hc hf) hr';omega))
theorem Uk(v u:Value)(g:Gr)(en:List (List Bool))(ag:Int)(w:World)(h:Ao w v g)(hu:AO w u en)(hn:Ad g≤100000)(hS:g.S.length≤100000):
 Calls Tryz.prog 24 #[v,u,.int .i64 ag] w (DC w (Cm g en ag)):=by
 obtain⟨sa,aa,ta,sc,ac,tc,rfl,-⟩:=h.var;have hb:=Ae w (.cells #[.slice sa g.S.length sc,.slice aa g.A.length ac,.slice ta g.T.length tc] 32);have HB:=Aa hb;have X0:=Aa (Ar w (.cells #[.slice sa g.S.length sc,.slice aa g.A.length ac,.slice ta g.T.length tc] 32));have HR:=Aa (QN _ u g en ag _ (h.below hb) (hu.below hb));cases hr:Tn g en ag
 ·have E:Cm g en ag=[]:=by unfold Cm;rw[hr];rfl
  rw[hr]at HR;rw[E];clear h hb hu hr E;go_enter Tryz.func24,Tryz.ntmps24;go_wp2_with (go_at_call 42;refine HR.out.mono ?_;rintro e w1 ⟨rfl,hb1⟩;have HB1:=Aa (HB.out.trans (hb1.mono HB.out.size));clear hb1)
  go_ret;exact⟨_,rfl,BM _,HB1.out⟩
 have hRT:=Nu hr;obtain⟨A,rfl,hA,hrows⟩:=hRT.nat;have hlen:=hRT.len;have E:Cm g en (A:Nat)=Pr g en A (Ad g) (Aw g (List.replicate en.length true)):=by
  unfold Cm;rw[hr,if_pos rfl,BT,Cr hRT.right hS,hlen]
 rw[hr]at HR;rw[E];have HRW:=Aa hrows;have hel:en.length≤1000000:=by omega
 have HIN:Hid (∀(w':World) (iv:Value),Below w.heap.size w w'→Bc w' iv (List.replicate en.length true)→Calls Tryz.prog 45 #[.agg #[.slice sa g.S.length sc,.slice aa g.A.length ac,.slice ta g.T.length tc],u,.int .i64 (A:Nat),iv] w' (DC w' (Pr g en A (Ad g) (Aw g (List.replicate en.length true))))):=
  Aa (fun w' iv hb hiv=>NS _ u g en A hA hrows hel (Ad g) _ iv w' (h.below hb) (hu.below hb) hiv (by simp) (fun r hr=>by
   rw[hlen,← Cr hRT.right hS]at hr;exact(IY hr).1))
 obtain⟨ua,uc,rfl,-⟩:=hu;clear h hb hr E hRT hlen hrows HRW;generalize Pr g en A (Ad g) (Aw g (List.replicate en.length true))=RES at*;obtain⟨n,hnn⟩:∃n,en.length=n:=⟨_,rfl⟩;rw[hnn]at HR HIN hel ⊢;clear hnn;go_enter Tryz.func24,Tryz.ntmps24;go_wp2_with (first
  | (go_at_call 42;refine HR.out.mono ?_;rintro e w1 ⟨rfl,hb1⟩;have HB1:=Aa (HB.out.trans (hb1.mono HB.out.size));have X1:=Aa (Ah hb1 X0.out);clear hb1)
  | (at_make;refine BE _ rfl (.tmp 15) (.tmp 15) 56 rfl 4 (.bool false) rfl 1 Tryz.underlying56 Tryz.info4 .i64 .i64 (n:Nat) (n:Nat) n rfl rfl rfl rfl (by omega) (by unfold maxLen;omega) ?_;intro w3 hh3 hb3 hlt3;have HB3:=Aa hb3;have HH3:=Aa hh3;clear hb3 hh3))
 have HH4:Hid (w3.heap[w1.heap.size]?=some (.cells (bools (BV n (fun i=>decide (i<0)))) 4 (0,0))):=Aa (by
  rw[HH3.out,← BJ];have:BV n (fun i=>decide (i<0))=List.replicate n false:=by unfold BV;simp[List.map_const']
  rw[this])
 go_loopg [8] n (fun fu c wr=>∃k:Nat,k+fu=n∧c=.int .i64 k∧Below w1.heap.size w1 wr∧wr.heap[w1.heap.size]?=some (.cells (bools (BV n (fun i=>decide (i<k)))) 4 (0,0)))
 case atStart=>exact⟨0,by omega,rfl,HB3.out,HH4.out⟩
 case round=>
  clear HH3 HH4 HB3;obtain⟨k,hk,rfl,hb,hh⟩:=hrel;by_cases hlt:k<n
  ·have z:(k:Int)<(n:Int):=by omega
   have c0:=Ab hh k _ (Co _ k (by rw[AJ];exact hlt));have f0:=Ag hh k;have HX:Hid ((wr.setCell ⟨w1.heap.size,k,none⟩ (.bool true)).heap[w1.heap.size]?=some (.cells (bools (BV n (fun i=>decide (i<k+1)))) 4 (0,0))):=Aa (by
    rw[Ac hh,EW,Ro n k])
   have HY:=Aa (hb.setCell (p:=⟨w1.heap.size,k,none⟩) (AQ _) (.bool true));clear hh hb;generalize (BV n _).getD k false=vb at*;go_wp2_with fail
   go_roundg (n - (k+1))
   case measure=>omega
   case rel=>exact⟨k+1,by omega,by simp,HY.out,HX.out⟩
  ·obtain rfl:k=n:=by omega
   have e:BV k (fun i=>decide (i<k))=List.replicate k true:=by
    have:BV k (fun i=>decide (i<k))=BV k (fun _=>true):=Cs fun x hx=>Ck hx;rw[this];unfold BV;simp[List.map_const']
   rw[e]at hh;have HBX:=Aa (HB1.out.trans (hb.mono HB1.out.size));have HI2:=Aa (HIN.out wr _ HBX.out (CH (n:=k) hh (by simp) k));have hx:=Ah hb X1.out;obtain⟨c0,c1,c2⟩:=DY hx;clear hh hb e hx;go_wp2_with (go_at_call 45;refine HI2.out.mono ?_;rintro e w4 ⟨rv2,rfl,hr,hb4⟩;have HR4:=Aa hr;have HB4:=Aa (HBX.out.trans (hb4.mono HBX.out.size));clear hr hb4)
   go_ret;exact⟨_,rfl,HR4.out,HB4.out⟩
noncomputable def Dl(g:Gr)(en:List (List Bool))(ag how:Int):List Int:=if how=1 then EC g en ag else if how=2 then Cm g en ag else []
theorem Xn(v u:Value)(g:Gr)(en:List (List Bool))(ag how:Int)(w:World)(h:Ao w v g)(hu:AO w u en)(hn:Ad g≤100000)(hS:g.S.length≤100000):
 Calls Tryz.prog 9 #[v,u,.int .i64 ag,.int .i64 how] w (DC w (Dl g en ag how)):=by
 obtain⟨sa,aa,ta,sc,ac,tc,rfl,-⟩:=h.var;have hb:=Ae w (.cells #[.slice sa g.S.length sc,.slice aa g.A.length ac,.slice ta g.T.length tc] 32);have HB:=Aa hb;have X0:=Aa (Ar w (.cells #[.slice sa g.S.length sc,.slice aa g.A.length ac,.slice ta g.T.length tc] 32));by_cases h1:how=1
 ·subst h1;have E:Dl g en ag 1=EC g en ag:=if_pos rfl;have HC:=Aa (YD _ u g en ag _ (h.below hb) (hu.below hb) hn);rw[E];obtain⟨ua,uc,rfl,-⟩:=hu;clear h hb E;generalize EC g en ag=L at*;go_enter Tryz.func9,Tryz.ntmps9;go_wp2_with (go_at_call 23;refine HC.out.mono ?_;rintro e w1 ⟨rv,rfl,hi,hb1⟩;obtain⟨ra,rc,rfl,hc⟩:=id hi;have HI:=Aa hi;have HB1:=Aa (HB.out.trans (hb1.mono HB.out.size));clear hb1 hi hc)
  go_ret;exact⟨_,rfl,HI.out,HB1.out⟩
 by_cases h2:how=2
 ·subst h2;have E:Dl g en ag 2=Cm g en ag:=by unfold Dl;rw[if_neg (by omega),if_pos rfl]
  have HC:=Aa (Uk _ u g en ag _ (h.below hb) (hu.below hb) hn hS);rw[E];obtain⟨ua,uc,rfl,-⟩:=hu;clear h hb E h1;generalize Cm g en ag=L at*;go_enter Tryz.func9,Tryz.ntmps9;go_wp2_with (go_at_call 24;refine HC.out.mono ?_;rintro e w1 ⟨rv,rfl,hi,hb1⟩;obtain⟨ra,rc,rfl,hc⟩:=id hi;have HI:=Aa hi;have HB1:=Aa (HB.out.trans (hb1.mono HB.out.size));clear hb1 hi hc)
  go_ret;exact⟨_,rfl,HI.out,HB1.out⟩
 have E:Dl g en ag how=[]:=by unfold Dl;rw[if_neg h1,if_neg h2]
 rw[E];have n1:(how==1)=false:=by simp[h1]
 have n2:(how==2)=false:=by simp[h2]
 obtain⟨ua,uc,rfl,-⟩:=hu;clear h hb E h1 h2;go_enter Tryz.func9,Tryz.ntmps9;go_wp2_with fail
 go_ret;exact⟨_,rfl,BM _,HB.out⟩
end Go.Proofs.YtlhpjfnfemebdaaGreat
