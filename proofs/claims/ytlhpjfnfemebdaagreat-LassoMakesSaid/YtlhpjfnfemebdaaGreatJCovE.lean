/- Rows of truths that a call builds, row by row. Who can act -/
import Derived.Test.YtlhpjfnfemebdaaGreatJStart
import Derived.Test.YtlhpjfnfemebdaaGreatFairA
import Derived.Test.YtlhpjfnfemebdaaGreatJMachY
import Derived.Test.YtlhpjfnfemebdaaGreatJPartsMem
import Derived.Test.YtlhpjfnfemebdaaGreatSccLaw
import Derived.Test.YtlhpjfnfemebdaaGreatFairB
import Derived.Test.YtlhpjfnfemebdaaGreatJActM
import Derived.Test.YtlhpjfnfemebdaaGreatTrailA
set_option maxRecDepth 100000
set_option maxHeartbeats 64000000
set_option linter.unusedSimpArgs false
namespace Go.Proofs.YtlhpjfnfemebdaaGreat
open Go.RowKit
theorem ZP:(Tryz.prog.info? 56).map (fun i=>(i.zero,i.size,i.bytes))=some (some (.slice none 0 0),1,24):=by kernel_rfl
def IB(base:Nat)(w:World)(v:Value)(l:List Bool):Prop:=w.ownsRow base 4 1 v l.length (l.map Value.bool)
theorem IB.nil(base:Nat)(w:World):IB base w (.slice none 0 0) []:=CO _ _ _ _
theorem IB.more{base:Nat}{w w':World}{v:Value}{l:List Bool}(h:IB base w v l)(hb:Below w.heap.size w w'):IB base w' v l:=Nk h hb
theorem IB.bools{base:Nat}{w:World}{v:Value}{l:List Bool}(h:IB base w v l):Bc w v l:=by
 obtain⟨a,cp,rfl⟩:=Bp h;refine⟨a,cp,rfl,fun j hj=>?_⟩;obtain⟨g,cap,e,-,-⟩:=World.ownsRow.form h (by omega);cases e;refine⟨g,0,rfl,?_⟩;have:=World.ownsRow.cellAt h j (by omega);rw[Nat.zero_add,this,List.getElem?_map,Bf hj,AM,Bf hj]
 rfl
theorem IB.st{base:Nat}{w:World}{v:Value}{l:List Bool}(h:IB base w v l){F:Nat→Prop}(hF:∀k,v.ownBlock=some k→¬F k):St F (fun w=>Bc w v l) w:=(dR h hF).imp fun _ h=>IB.bools h
structure QW(base:Nat)(F:Nat→Prop)(w:World)(ov:Value)(vals:List Value)(rows:List (List Bool)):Prop where
 len:vals.length=rows.length
 out:w.ownsRow base 56 1 ov rows.length vals
 inn:∀j,j<rows.length→St F (fun w=>Bc w (vals.getD j undef) (rows.getD j [])) w
theorem QW.nil(base:Nat)(F:Nat→Prop)(w:World):QW base F w (.slice none 0 0) [] []:=⟨rfl,CO _ _ _ _,fun j hj=>by simp at hj⟩
theorem QW.rows{base:Nat}{F:Nat→Prop}{w:World}{ov:Value}{vals:List Value}{rows:List (List Bool)}(h:QW base F w ov vals rows):AO w ov rows:=by
 obtain⟨a,cp,rfl⟩:=Bp h.out;refine⟨a,cp,rfl,fun j hj=>?_⟩;obtain⟨g,cap,e,-,-⟩:=World.ownsRow.form h.out (by omega);cases e;refine⟨g,0,vals.getD j undef,rfl,?_,(h.inn j hj).now⟩;have:=World.ownsRow.cellAt h.out j (by omega);have hl:=h.len;rw[Nat.zero_add,this,AM,Bf (by omega)]
 rfl
theorem QW.step{base:Nat}{F F':Nat→Prop}{w w':World}{ov:Value}{vals:List Value}{rows:List (List Bool)}(h:QW base F w ov vals rows)(k:Bn F w w')(ho:w'.ownsRow base 56 1 ov rows.length vals)(hF:∀q,F' q→F q∨w.heap.size≤q):QW base F' w' ov vals rows:=
 ⟨h.len,ho,fun j hj=>(h.inn j hj).step k hF⟩
theorem QW.more{base:Nat}{F:Nat→Prop}{w w':World}{ov:Value}{vals:List Value}{rows:List (List Bool)}(h:QW base F w ov vals rows)(hb:Below w.heap.size w w'):QW base F w' ov vals rows:=
 h.step (Df hb F) (Nk h.out hb) fun _ hq=>.inl hq
theorem QW.push {base:Nat} {w w':World} {ov ov' rv:Value} {vals:List Value} {rows:List (List Bool)} {row:List Bool} (h:QW base (fun q=>ov.ownBlock=some q∨rv.ownBlock=some q) w ov vals rows) (hr:IB base w rv row) (ha:AP rv ov)
 (hg:w.grownBy w' ov.ownBlock) (hown:w'.ownsRow base 56 1 ov' (rows.length+1) (vals++[rv])) (hor:∀q,ov'.ownBlock=some q→ov.ownBlock=some q∨w.heap.size≤q):QW base (fun q=>ov'.ownBlock=some q) w' ov' (vals++[rv]) (rows++[row]):=by
 have hl:=h.len;have k:Bn (fun q=>ov.ownBlock=some q∨rv.ownBlock=some q) w w':=Dj hg (fun q e=>.inl e);refine⟨by simp[hl],by rw[Bs,List.length_singleton];exact hown,fun j hj=>?_⟩;rw[Bs,List.length_singleton]at hj;by_cases e:j<rows.length
 ·rw[BR (by omega),BR e];exact(h.inn j e).step k fun q hq=>(hor q hq).imp (fun e=>.inl e) id
 ·obtain rfl:j=rows.length:=by omega
  rw[Dd hl,Hy];have h2:IB base w' rv row:=Al (F:=fun q=>ov.ownBlock=some q) hr (Dj hg (fun q e=>e)) (fun q e1 e2=>ha q e1 e2);refine h2.st fun q e1 e2=>?_;have h3:=(World.ownsRow.lt hr q e1).2;rcases hor q e2 with e | e
  ·exact ha q e1 e
  ·omega
def Lr(base k:Nat)(t:TypeId)(x:Value)(vs:List Value)(j:Nat)(v:Value)(w:World):Prop:=
 if j=k then∃b,v=.slice (some ⟨b,0,none⟩) 1 1∧base≤b∧w.heap[b]?=some (.cells #[x] t (0,0)) else v=vs.getD j undef
theorem SW{base k:Nat}{t:TypeId}{x:Value}{vs:List Value}{j:Nat}{v:Value}{w w':World}(hb:Below w.heap.size w w')(h:Lr base k t x vs j v w):Lr base k t x vs j v w':=by
 unfold Lr at h ⊢;split
 ·rename_i e;rw[if_pos e]at h;obtain⟨b,e2,h3,h4⟩:=h;exact⟨b,e2,h3,Ah hb h4⟩
 ·rename_i e;rw[if_neg e]at h;exact h
theorem TM{base k:Nat}{t:TypeId}{x:Value}{vs:List Value}{w':World}(h:base≤w'.heap.size):Lr base k t x vs k (.slice (some ⟨w'.heap.size,0,none⟩) 1 1) (w'.alloc (.cells #[x] t)):=by
 unfold Lr;rw[if_pos rfl];exact⟨w'.heap.size,rfl,h,Ar w' _⟩
def Yh(EN:Nat→Nat→Bool)(ag k:Nat):List (List Bool):=BV k (fun i=>BV ag (EN i))
def NJ(u:DG)(s:Sp)(model room:Int):List (List Bool):=Yh (fun i a=>QT u (s.confs.getD i JQ) model room a) (Fx u model) s.confs.length
theorem MF(EN:Nat→Nat→Bool)(ag k:Nat):(Yh EN ag k).length=k:=AJ _ _
theorem QM(uv v:Value)(u:DG)(s:Sp)(model room:Int)(w:World)(hu:Ma w uv u)(h:QV w v s)(hR:Bi u=true)(hL:Sn u)(hn:s.confs.length≤500)(hk:∀j,j<s.confs.length→CN u 1000 (s.confs.getD j JQ)):
 Calls Tryz.prog 7 #[uv,v,.int .i64 model,.int .i64 room] w fun r w'=>∃rv,r=.returned rv∧AO w' rv (NJ u s model room)∧Below w.heap.size w w':=by
 obtain⟨i0,hi0,hz0,hz1,hz2⟩:=CE Tryz.info4;obtain⟨i1,hi1,hy0,hy1,hy2⟩:=CE ZP;have hag:=Ix hR model;have HA:=Aa (fun(w':World) (hb:Below w.heap.size w w')=>Js uv u model w' (hu.below hb) hR hL);have HE:=Aa (fun(w':World) (hb:Below w.heap.size w w') (i a:Nat) (cv:Value) (hc:Ll w' cv (s.confs.getD i JQ)) (hi:i<s.confs.length) (ha:a<Fx u model)=>Ui uv cv u (s.confs.getD i JQ) model room a w' (hu.below hb) hc hR hL (hk i hi) ha);obtain⟨ia,ic,ga,gc,ka,kc,rfl,-⟩:=hu.var;obtain⟨vC,sa,sc,aa,ac,ta,tc,vP,vA,rfl,hC,-,-,-⟩:=h.var;obtain⟨ca,cc,rfl,hC⟩:=hC;unfold NJ;obtain⟨EN,hEN⟩:∃EN:Nat→Nat→Bool,EN=fun i a=>QT u (s.confs.getD i JQ) model room a:=⟨_,rfl⟩;rw[← hEN];have HE2:Hid (∀(w':World),Below w.heap.size w w'→∀(i a:Nat) (cv:Value),Ll w' cv (s.confs.getD i JQ)→i<s.confs.length→a<Fx u model→Calls Tryz.prog 21 #[.agg #[.int .i64 u.mod,.slice ia u.init.length ic,.slice ga u.regs.length gc,.slice ka u.code.length kc],cv,.int .i64 model,.int .i64 room,.int .i64 (a:Nat)] w' fun r w2=>r=.returned (.bool (EN i a))∧Below w'.heap.size w' w2):=Aa (by rw[hEN];exact HE.out);clear hEN HE hk h hR hL hu;have HCC:=Aa hC;clear hC;generalize s.confs=cs at*;obtain⟨n,hnn⟩:∃n,n=cs.length:=⟨_,rfl⟩;rw[← hnn]at HE2 HCC hn;generalize (Ai (cs.length:Int) s.ed).S.length=nS at*;generalize (Ai (cs.length:Int) s.ed).A.length=nA at*;generalize (Ai (cs.length:Int) s.ed).T.length=nT at*;rw[← hnn];clear hnn;generalize Fx u model=ag at*;have S0:=Aa (OT.start w #[.int .i64 u.mod,.slice ia u.init.length ic,.slice ga u.regs.length gc,.slice ka u.code.length kc] 25 #[.slice ca n cc,.slice sa nS sc,.slice aa nA ac,.slice ta nT tc,vP,vA] 34);generalize hw2:(w.alloc (.cells #[.int .i64 u.mod,.slice ia u.init.length ic,.slice ga u.regs.length gc,.slice ka u.code.length kc] 25)).alloc (.cells #[.slice ca n cc,.slice sa nS sc,.slice aa nA ac,.slice ta nT tc,vP,vA] 34)=w2 at*;go_enter Tryz.func7,Tryz.ntmps7;go_wp2_with fail
 clear hw2;go_loopg [9,10] n (fun fu ov c wr=>∃(k:Nat) (vals:List Value),k+fu=n∧c=.int .i64 k∧Hid (QW w2.heap.size (fun q=>ov.ownBlock=some q) wr ov vals (Yh EN ag k))∧Hid (Below w2.heap.size w2 wr))
 case atStart=>exact⟨0,[],by omega,rfl,Aa (QW.nil _ _ _),Aa (Ak _ _)⟩
 case round=>
  obtain⟨k,vals,hk,rfl,M,HB⟩:=hrel;obtain⟨oa,oc,hov⟩:=Bp M.out.out;rw[MF]at hov;subst hov;have S:=Aa (S0.out.more HB.out);have d0:=Ab S.out.blk2 0 (.slice ca n cc) rfl;by_cases hlt:k<n
  ·have z1:(k:Int)<(n:Int):=by omega
   obtain⟨b1,o1,xp,xr,xm,xb,rfl,x0,x1,x2,x3,hcf⟩:=HCC.out k hlt;have HCF:=Aa (fun(w':World) (hb:Below w.heap.size w w')=>hcf.below hb);have HX:=Aa (And.intro x0 (And.intro x1 (And.intro x2 x3)));have HM0:Hid (QW w2.heap.size (fun q=>(Value.slice oa k oc).ownBlock=some q∨(Value.slice none 0 0).ownBlock=some q) wr (.slice oa k oc) vals (Yh EN ag k)):=Aa (M.out.step (Bn.refl _ _) M.out.out fun q hq=>by rcases hq with e | e;exact .inl e;cases e);clear hcf x0 x1 x2 x3 M S;go_wp2_with fail
   clear d0;go_loopg [11,12] ag (fun fu rv c wr=>∃(a:Nat),a+fu=ag∧c=.int .i64 a∧Hid (IB w2.heap.size wr rv (BV a (EN k)))∧Hid (QW w2.heap.size (fun q=>(Value.slice oa k oc).ownBlock=some q∨rv.ownBlock=some q) wr (.slice oa k oc) vals (Yh EN ag k))∧Hid (AP rv (.slice oa k oc))∧Hid (Below w2.heap.size w2 wr))
   case atStart=>exact⟨0,by omega,rfl,Aa (IB.nil _ _),HM0,Aa (LB _).symm,HB⟩
   case round=>
    clear HM0 HB;obtain⟨a,hka,rfl,O,M,HAP,HB⟩:=hrel;obtain⟨ra,rc,hrv⟩:=Bp O.out;rw[AJ]at hrv;subst hrv;have S:=Aa (S0.out.more HB.out);obtain⟨a0,a1,a2,a3⟩:=BX S.out.blk1;by_cases hal:a<ag
    ·have z2:(a:Int)<(ag:Int):=by omega
     go_wp2_with (first
      | (go_at_call 8;refine(HA.out _ S.out.below).mono ?_;rintro e1 w4 ⟨rfl,hb4⟩;have S4:=Aa (S.out.more hb4);have O4:=Aa (O.out.more hb4);have M4:=Aa (M.out.more hb4);have HB4:=Aa (HB.out.trans (hb4.mono HB.out.size));clear hb4 S O M HB a0 a1 a2 a3;obtain⟨a0,a1,a2,a3⟩:=BX S4.out.blk1;have d0:=Ab S4.out.blk2 0 _ rfl;have x0:=Af S4.out.below HX.out.1;have x1:=Af S4.out.below HX.out.2.1;have x2:=Af S4.out.below HX.out.2.2.1;have x3:=Af S4.out.below HX.out.2.2.2))
     refine BH 12 (fun q=>match q with | 27=>u27 | 28=>u28 | 29=>u29 | 30=>u30 | 31=>u31 | 32=>u32 | 33=>u33 | 34=>u34 | 35=>u35 | 36=>u36 | 37=>u37 | 38=>u38 | _=>undef)
      (fun f=>{tmps:=#[.agg #[.int .i64 u.mod,.slice ia u.init.length ic,.slice ga u.regs.length gc,.slice ka u.code.length kc],.agg #[.slice (some ⟨b1,o1,none⟩) n cc,.slice sa nS sc,.slice aa nA ac,.slice ta nT tc,vP,vA],.int .i64 model,.int .i64 room,.pointer (some ⟨w.heap.size,0,none⟩),.pointer (some ⟨w.heap.size+1,0,none⟩),undef,undef,.slice none 0 0,.slice oa k oc,.int .i64 (k:Nat),.slice ra a rc,.int .i64 (a:Nat),.int .i64 (k:Nat),.pointer (some ⟨w.heap.size+1,0,none⟩),.slice (some ⟨b1,o1,none⟩) n cc,.int .i64 (n:Nat),.bool true,u18,u19,.int .i64 (a:Nat),.agg #[.int .i64 u.mod,.slice ia u.init.length ic,.slice ga u.regs.length gc,.slice ka u.code.length kc],.int .i64 model,.int .i64 (ag:Nat),.bool true,u25,u26,f 27,f 28,f 29,f 30,f 31,f 32,f 33,f 34,f 35,f 36,f 37,f 38,u39,u40,u41,u42,u43,undef],defers:=[]}) (fun j=>j+27)
      (Lr w4.heap.size 11 4 (.bool (EN k a)) [(.slice ra a rc),(.agg #[.int .i64 u.mod,.slice ia u.init.length ic,.slice ga u.regs.length gc,.slice ka u.code.length kc]),(.pointer (some ⟨w.heap.size+1,0,none⟩)),(.slice (some ⟨b1,o1,none⟩) n cc),(.int .i64 (k:Nat)),(.pointer (some ⟨b1,o1+k*4,none⟩)),(.agg #[xp,xr,xm,xb]),(.int .i64 model),(.int .i64 room),(.int .i64 (a:Nat)),(.bool (EN k a))])
      rfl (by kernel_rfl) (by kernel_rfl) (by kernel_rfl) (by decide) (by kernel_rfl) (fun i u w w' hb h=>SW hb h) (by kernel_rfl) (by kernel_rfl) ?_ ?_ ?_
     ·intro j hj f v;rcases j with _ | _ | _ | _ | _ | _ | _ | _ | _ | _ | _ | _ | j
      all_goals first | rfl | omega | (simp at hj;omega)
     ·refine⟨?_,?_,?_,?_,?_,?_,?_,?_,?_,?_,?_,?_,trivial⟩
      ·intro f w' hb hd K hK;dsimp only;go_simp;exact hK (.slice ra a rc) w' (Ak _ _) rfl
      ·intro f w' hb hd K hK;obtain⟨e0,e1,e2,e3⟩:=Zf hb a0 a1 a2 a3;dsimp only;go_simp;exact hK (.agg #[.int .i64 u.mod,.slice ia u.init.length ic,.slice ga u.regs.length gc,.slice ka u.code.length kc]) w' (Ak _ _) rfl
      ·intro f w' hb hd K hK;dsimp only;go_simp;exact hK (.pointer (some ⟨w.heap.size+1,0,none⟩)) w' (Ak _ _) rfl
      ·intro f w' hb hd K hK;have h2:f 29=(.pointer (some ⟨w.heap.size+1,0,none⟩)):=hd 2 (by kernel_rfl);have e0:=Af hb d0;dsimp only;go_simp;have q:=hK (.slice (some ⟨b1,o1,none⟩) n cc) w' (Ak _ _) rfl;simp only[h2]at q;exact q
      ·intro f w' hb hd K hK;dsimp only;go_simp;exact hK (.int .i64 (k:Nat)) w' (Ak _ _) rfl
      ·intro f w' hb hd K hK;have h3:f 30=(.slice (some ⟨b1,o1,none⟩) n cc):=hd 3 (by kernel_rfl);have h4:f 31=(.int .i64 (k:Nat)):=hd 4 (by kernel_rfl);dsimp only;go_simp;have q:=hK (.pointer (some ⟨b1,o1+k*4,none⟩)) w' (Ak _ _) rfl;simp only[h3,h4]at q;exact q
      ·intro f w' hb hd K hK;have h5:f 32=(.pointer (some ⟨b1,o1+k*4,none⟩)):=hd 5 (by kernel_rfl);obtain⟨e0,e1,e2,e3⟩:=Zf hb x0 x1 x2 x3;dsimp only;go_simp;have q:=hK (.agg #[xp,xr,xm,xb]) w' (Ak _ _) rfl;simp only[h5]at q;exact q
      ·intro f w' hb hd K hK;dsimp only;go_simp;exact hK (.int .i64 model) w' (Ak _ _) rfl
      ·intro f w' hb hd K hK;dsimp only;go_simp;exact hK (.int .i64 room) w' (Ak _ _) rfl
      ·intro f w' hb hd K hK;dsimp only;go_simp;exact hK (.int .i64 (a:Nat)) w' (Ak _ _) rfl
      ·intro f w' hb hd K hK;have h1:f 28=(.agg #[.int .i64 u.mod,.slice ia u.init.length ic,.slice ga u.regs.length gc,.slice ka u.code.length kc]):=hd 1 (by kernel_rfl);have h6:f 33=(.agg #[xp,xr,xm,xb]):=hd 6 (by kernel_rfl);have h7:f 34=(.int .i64 model):=hd 7 (by kernel_rfl);have h8:f 35=(.int .i64 room):=hd 8 (by kernel_rfl);have h9:f 36=(.int .i64 (a:Nat)):=hd 9 (by kernel_rfl);have HBW:Hid (Below w.heap.size w w'):=Aa (S4.out.below.trans (((Ak _ w4).drew.trans hb).mono S4.out.below.size));have HO2:=Aa (HE2.out w' HBW.out k a _ (HCF.out w' HBW.out) hlt hal);dsimp only;go_simp;go_wp2_with (go_at_call 21;refine HO2.out.mono ?_;rintro e w3 ⟨rfl,hb3⟩)
       have q:=hK (.bool (EN k a)) w3 hb3 rfl;simp only[h1,h6,h7,h8,h9]at q;exact q
      ·intro f w' hb hd K hK;have h10:f 37=(.bool (EN k a)):=hd 10 (by kernel_rfl);have hsz:w4.heap.size≤w'.heap.size:=hb.size;dsimp only;go_simp;have q:=hK _ _ (Ae w' _) (TM (t:=4) (x:=.bool (EN k a)) (vs:=[(.slice ra a rc),(.agg #[.int .i64 u.mod,.slice ia u.init.length ic,.slice ga u.regs.length gc,.slice ka u.code.length kc]),(.pointer (some ⟨w.heap.size+1,0,none⟩)),(.slice (some ⟨b1,o1,none⟩) n cc),(.int .i64 (k:Nat)),(.pointer (some ⟨b1,o1+k*4,none⟩)),(.agg #[xp,xr,xm,xb]),(.int .i64 model),(.int .i64 room),(.int .i64 (a:Nat)),(.bool (EN k a))]) hsz);simp only[h10]at q;exact q
     intro f w5 hb5 hr;have h27:f 27=(.slice ra a rc):=hr 0 (by decide);obtain⟨b6,h38,-,hbk⟩:∃b,f 38=.slice (some ⟨b,0,none⟩) 1 1∧w4.heap.size≤b∧w5.heap[b]?=some (.cells #[.bool (EN k a)] 4 (0,0)):=hr 11 (by decide);clear hr;simp only[h27,h38,List.drop_succ_cons,List.drop_zero];generalize f 28=q28;generalize f 29=q29;generalize f 30=q30;generalize f 31=q31;generalize f 32=q32;generalize f 33=q33;generalize f 34=q34;generalize f 35=q35;generalize f 36=q36;generalize f 37=q37;have HN:Hid (BV (a+1) (EN k)=BV a (EN k)++[EN k a]):=Aa (SQ _ _);have O5:=Aa (O4.out.more hb5);have M5:=Aa (M4.out.more hb5);have HB5:Hid (Below w2.heap.size w2 w5):=Aa (HB4.out.trans (hb5.mono HB4.out.size));have HBK:=Aa hbk;have HOW:Hid (w5.ownsRow w2.heap.size 4 1 (.slice ra a rc) a ((BV a (EN k)).map Value.bool)):=Aa (by have:=O5.out;unfold IB at this;rwa [AJ]at this);clear hbk hb5 O4 M4 HB4 S4 a0 a1 a2 a3 d0 x0 x1 x2 x3;generalize EN k a=ex at*;go_wp2_with (at_builtin;refine wpList_append_lies w5 rfl (.tmp 27) (.tmp 38) 56 rfl w2.heap.size 4 i0 (.bool false) 1 1 Tryz.underlying56 hi0 hz0 hz1 hz2 rfl (by decide) (.slice ra a rc) a _ rfl HOW.out ⟨b6,0,none⟩ 1 1 [.bool ex] rfl rfl (World.news_of_block HBK.out) (by simp[Value.oneCell']) (by omega) (by unfold maxLen;omega) (by omega) (by have:=HB5.out.size;omega) w5.heap.size rfl ?_;intro g6 cap6 w6 hown6 hgr6 hor6 hlt6;have O6:Hid (IB w2.heap.size w6 (.slice (some ⟨g6,0,none⟩) (a+1) cap6) (BV (a+1) (EN k))):=Aa (by unfold IB;rw[HN.out,Bs,Ec,AJ];exact hown6);have HOR:=Aa (Cw (N:=w5.heap.size) (n:=a+1) (cap:=cap6) hor6 (by omega));have M6:=Aa (M5.out.step (F':=fun q=>(Value.slice oa k oc).ownBlock=some q∨(Value.slice (some ⟨g6,0,none⟩) (a+1) cap6).ownBlock=some q) (Dj hgr6 (fun q e=>.inr e)) (Fl M5.out.out hgr6 HAP.out.symm) (fun q hq=>by rcases hq with e | e;exact .inl (.inl e);exact(HOR.out q e).imp .inr id));have HAP6:Hid (AP (.slice (some ⟨g6,0,none⟩) (a+1) cap6) (.slice oa k oc)):=Aa (fun q e1 e2=>by rcases HOR.out q e1 with e | e;exact HAP.out q e e2;have:=(World.ownsRow.lt M5.out.out q e2).2;omega);have HB6:=Aa (HB5.out.grown hgr6 HB5.out.size (fun q e=>(World.ownsRow.lt O5.out q e).1));clear hown6 hgr6 hor6 hlt6 HOR)
     go_roundg (ag - (a+1))
     case measure=>omega
     case rel=>exact⟨a+1,by omega,by simp,O6,M6,HAP6,HB6⟩
    ·obtain rfl:a=ag:=by omega
     have z2:¬(a:Int)<(a:Int):=by omega
     have HN:Hid (Yh EN a (k+1)=Yh EN a k++[BV a (EN k)]):=Aa (by unfold Yh;rw[SQ]);go_wp2_with (first
      | (at_builtin;refine wpList_append_lies (w4.alloc (.cells #[.slice ra a rc] 56)) rfl (.tmp 40) (.tmp 42) 38 rfl w2.heap.size 56 i1 (.slice none 0 0) 1 24 Tryz.underlying38 hi1 hy0 hy1 hy2 rfl (by decide) (.slice oa k oc) k vals rfl (World.ownsRow.alloc (by have:=M4.out.out;rwa [MF]at this) _) ⟨w4.heap.size,0,none⟩ 1 1 [.slice ra a rc] rfl rfl (World.news_of_block (Ar _ _)) (by simp[Value.oneCell']) (by omega) (by unfold maxLen;omega) (by omega) (by have:=HB4.out.size;simp only[Az];omega) (w4.heap.size+1) (by simp) ?_;intro g7 cap7 w7 hown7 hgr7 hor7 hlt7;have HB7:=Aa ((HB4.out.alloc HB4.out.size (.cells #[.slice ra a rc] 56)).grown hgr7 (by have:=HB4.out.size;simp only[Az];omega) (fun q e=>(World.ownsRow.lt M4.out.out q e).1));have M7:Hid (QW w2.heap.size (fun q=>(Value.slice (some ⟨g7,0,none⟩) (k+1) cap7).ownBlock=some q) w7 (.slice (some ⟨g7,0,none⟩) (k+1) cap7) (vals++[.slice ra a rc]) (Yh EN a (k+1))):=Aa (by rw[HN.out];exact(M4.out.more (Ae w4 (.cells #[.slice ra a rc] 56))).push (O4.out.more (Ae w4 (.cells #[.slice ra a rc] 56))) HAP.out hgr7 (by rw[MF];exact hown7) (Cw (n:=k+1) (cap:=cap7) hor7 (by simp only[Az];omega)));clear hown7 hgr7 hor7 hlt7)
      | (go_at_call 8;refine(HA.out _ S.out.below).mono ?_;rintro e1 w4 ⟨rfl,hb4⟩;have O4:=Aa (O.out.more hb4);have M4:=Aa (M.out.more hb4);have HB4:=Aa (HB.out.trans (hb4.mono HB.out.size));clear hb4 S O M HB a0 a1 a2 a3))
     go_roundg (n - (k+1))
     case measure=>omega
     case rel=>exact⟨k+1,_,by omega,by simp,M7,HB7⟩
  ·obtain rfl:k=n:=by omega
   have z1:¬(k:Int)<(k:Int):=by omega
   go_wp2_with fail
   go_ret;exact⟨_,rfl,M.out.rows,S.out.below⟩
def OD(par ag:List Int):Nat→Nat→List Int×Nat
 | 0,i=>([],i)
 | k+1,i=>((OD par ag k i).1++[ag.getD (OD par ag k i).2 0],(par.getD (OD par ag k i).2 0).toNat)
theorem Sz{par ag:List Int}{n:Nat}(h:∀j,1≤j→j<n→0≤par.getD j 0∧par.getD j 0<(j:Int)){i:Nat}(hi:i<n):∀k,(∀q,q<k→(OD par ag q i).2≠0)→(OD par ag k i).2<n∧(OD par ag k i).2+k≤i∧DO par ag i=DO par ag (OD par ag k i).2++(OD par ag k i).1.reverse
 | 0,_=>⟨hi,by simp[OD],by simp[OD]⟩
 | k+1,hq=>by
  obtain⟨h1,h2,h3⟩:=Sz h hi k (fun q hk=>hq q (by omega));have h0:=hq k (by omega);have hp:=h _ (by omega) h1;refine⟨?_,?_,?_⟩
  ·rw[OD];omega
  ·rw[OD];simp only;omega
  ·rw[h3,JZ h (by omega) h1,OD];simp
theorem bF(par ag:List Int)(k i:Nat):(OD par ag (k+1) i).1=(OD par ag k i).1++[ag.getD (OD par ag k i).2 0]:=rfl
theorem Va(par ag:List Int):∀(k i:Nat),(OD par ag k i).1.length=k
 | 0,_=>rfl
 | k+1,i=>by rw[bF,Bs,Va par ag k i];rfl
theorem eG(v:Value)(s:Sp)(hp:∀j,1≤j→j<s.confs.length→0≤s.par.getD j 0∧s.par.getD j 0<(j:Int))(hlp:s.par.length=s.confs.length)(hla:s.ag.length=s.confs.length)(hn:s.confs.length≤500)(i:Nat)(w:World)(hi:i<s.confs.length)(h:QV w v s):
 Calls Tryz.prog 25 #[v,.int .i64 (i:Nat)] w fun r w'=>∃rv,r=.returned rv∧AW w.heap.size w' rv (DO s.par s.ag i)∧Below w.heap.size w w':=by
 obtain⟨i0,hi0,hz0,hz1,hz2⟩:=CE Tryz.info3;have HUP:=Aa (Sz (ag:=s.ag) hp hi);have HPR:=Aa hp;have HUL:=Aa (Va s.par s.ag);obtain⟨vC,sa,sc,aa,ac,ta,tc,vP,vA,rfl,hC,hG,hP,hA⟩:=h.var;obtain⟨ca,cc,rfl,-⟩:=hC;obtain⟨pa,pc,rfl,hP⟩:=hP;obtain⟨ba,bc,rfl,hA⟩:=hA;obtain⟨bp,op,rfl,-⟩:=hP i (by omega);obtain⟨bb,ob,rfl,-⟩:=hA i (by omega);have HP:Hid (∀j,j<s.confs.length→w.cell? ⟨bp,op+j,none⟩=some (.int .i64 (s.par.getD j 0))):=Aa (fun j hj=>by obtain⟨b,o,e,x⟩:=hP j (by omega);cases e;exact x);have HA:Hid (∀j,j<s.confs.length→w.cell? ⟨bb,ob+j,none⟩=some (.int .i64 (s.ag.getD j 0))):=Aa (fun j hj=>by obtain⟨b,o,e,x⟩:=hA j (by omega);cases e;exact x);clear h hG hP hA hp;generalize (Ai (s.confs.length:Int) s.ed).S.length=nS at*;generalize (Ai (s.confs.length:Int) s.ed).A.length=nA at*;generalize (Ai (s.confs.length:Int) s.ed).T.length=nT at*;rw[hlp,hla];clear hlp hla;generalize s.par=par at*;generalize s.ag=ag at*;generalize s.confs.length=n at*;have S0:=Aa (Tq.start w #[.slice ca n cc,.slice sa nS sc,.slice aa nA ac,.slice ta nT tc,.slice (some ⟨bp,op,none⟩) n pc,.slice (some ⟨bb,ob,none⟩) n bc] 34);have c0:=Ab S0.out.blk 0 (.slice ca n cc) rfl;have z0:¬(i:Int)<0:=by omega
 have z1:¬(n:Int)≤(i:Int):=by omega
 have z2:¬(0:Int)>(i:Int):=by omega
 go_enter Tryz.func25,Tryz.ntmps25;go_wp2_with fail
 clear c0 z0 z1 z2;go_loopg [1,5] (i+1) (fun fu iv lv wr=>∃(k j:Nat) (L:List Int),j+1=fu∧j<n∧iv=.int .i64 j∧Hid (OD par ag k i=(L,j))∧Hid (∀q,q<k→(OD par ag q i).2≠0)∧Hid (L.length≤500)∧Hid (Tq w wr #[.slice ca n cc,.slice sa nS sc,.slice aa nA ac,.slice ta nT tc,.slice (some ⟨bp,op,none⟩) n pc,.slice (some ⟨bb,ob,none⟩) n bc] 34)∧Hid (AW (w.heap.size+1) wr lv L))
 case atStart=>exact⟨0,i,[],rfl,hi,rfl,Aa rfl,Aa (fun q hq=>by omega),Aa (by simp),S0,Aa (AW.nil _ _)⟩
 case round=>
  clear S0;obtain⟨k,j,L,hfu,hjn,rfl,HK,HQ,HL,S,HO⟩:=hrel;obtain⟨oa,oc,rfl⟩:=CQ HO.out;obtain⟨m,hm⟩:∃m,L.length=m:=⟨_,rfl⟩;have HM:=Aa hm;rw[hm];have hm5:m≤500:=by rw[← hm];exact HL.out
  clear hm;by_cases h0:j=0
  ·subst h0;have E:Hid (DO par ag i=L.reverse):=Aa (by
    have:=(HUP.out k HQ.out).2.2;rw[HK.out]at this;rw[this];rfl)
   have HRV:=Aa (IA (.slice oa m oc) L (w.heap.size+1) wr (by rw[HM.out];have:=HO.out;unfold AW at this;rw[HM.out]at this;exact this) (by rw[HM.out];omega));clear hfu;go_wp2_with (go_at_call 46;refine HRV.out.mono ?_;rintro e w5 ⟨rfl,ho5,hf5⟩;have HO5:=Aa ho5;have HF5:=Aa (hf5.below (B:=w.heap.size) (fun k hk=>by have:=(HO.out.lt k (by rw[HM.out];exact hk)).1;omega) S.out.below.size);clear ho5 hf5)
   go_ret;refine⟨_,rfl,?_,S.out.below.trans HF5.out⟩;rw[E.out];unfold AW;rw[List.length_reverse];have:=CI HO5.out (base':=w.heap.size) (by omega);rw[HM.out]at this ⊢;exact this
  ·obtain⟨hp0,hp1⟩:=HPR.out j (by omega) hjn;have xp:=HP.out j hjn;have xa:=HA.out j hjn;obtain⟨p,hpp⟩:∃p:Nat,par.getD j 0=(p:Int):=⟨(par.getD j 0).toNat,by omega⟩;obtain⟨a,haa⟩:∃a:Int,ag.getD j 0=a:=⟨_,rfl⟩;have HK':Hid (OD par ag (k+1) i=(L++[a],p)):=Aa (by
    rw[OD,HK.out];simp only[hpp,haa,BT])
   have HQ':Hid (∀q,q<k+1→(OD par ag q i).2≠0):=Aa (fun q hq=>by
    by_cases e:q=k
    ·rw[e,HK.out];exact h0
    ·exact HQ.out q (by omega))
   have HL':Hid ((L++[a]).length≤500):=Aa (by
    have h1:=(HUP.out (k+1) HQ'.out).2.1;have h2:=HUL.out (k+1) i;rw[HK'.out]at h2;simp only at h2;omega)
   rw[hpp]at xp hp1;rw[haa]at xa;have hpj:p<j:=by omega
   have HXP:=Aa xp;have xp:=Af S.out.below xp;have xa:=Af S.out.below xa;have c3:=Ab S.out.blk 5 _ rfl;have z0:(0:Int)<(j:Int):=by omega
   have z1:(j:Int)<(n:Int):=by omega
   clear hpp haa hp0 hp1 xp;go_wp2_with (at_builtin;refine wpList_append_lies (wr.alloc (.cells #[.int .i64 a] 3)) rfl (.tmp 17) (.tmp 23) 22 rfl (w.heap.size+1) 3 i0 (.int .i64 0) 1 8 Tryz.underlying22 hi0 hz0 hz1 hz2 rfl (by decide) (.slice oa m oc) m (L.map (Value.int .i64)) rfl (by have:=HO.out;unfold AW at this;rw[HM.out]at this;exact World.ownsRow.alloc this _) ⟨wr.heap.size,0,none⟩ 1 1 [.int .i64 a] rfl rfl (World.news_of_block (Ar _ _)) (by simp[Value.oneCell']) (by omega) (by unfold maxLen;omega) (by omega) (by have:=S.out.size;simp only[Az];omega) (wr.heap.size+1) (by simp) ?_;intro g7 cap7 w7 hown7 hgr7 hor7 hlt7;have S7:=Aa ((S.out.more (Ae wr (.cells #[.int .i64 a] 3))).grown hgr7 (fun k hk=>(HO.out.lt k (by rw[HM.out];exact hk)).1));have O7:Hid (AW (w.heap.size+1) w7 (.slice (some ⟨g7,0,none⟩) (m+1) cap7) (L++[a])):=Aa (by unfold AW;rw[Bs,Ec,HM.out];exact hown7);have c2:=Ab S7.out.blk 4 (.slice (some ⟨bp,op,none⟩) n pc) rfl;have xp:=Af S7.out.below HXP.out;clear hown7 hgr7 hor7 hlt7)
   go_roundg (p+1)
   case measure=>omega
   case rel=>exact⟨k+1,p,L++[a],rfl,by omega,rfl,HK',HQ',HL',S7,O7⟩
end Go.Proofs.YtlhpjfnfemebdaaGreat
