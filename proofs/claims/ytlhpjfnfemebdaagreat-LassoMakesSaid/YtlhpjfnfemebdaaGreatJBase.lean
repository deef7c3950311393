/- Laws of my own over any program: a region whose last -/
import Derived.WalkKit
import Derived.WalkSpells
import Derived.WalkLawsBesides
import Derived.Lib.Hide
import Derived.StillTailTactics
import Derived.Deep.QuietTactic
import Derived.BigQuiet
import Derived.Deep.Slices
import Derived.Deep.LoopGhost
import Derived.Deep.DeepCutAuto
import Derived.Deep.DeepMust
import Derived.Deep.DeepFit
import Derived.KernelRfl
import Derived.Test.YtlhpjfnfemebdaaGreatRows
set_option maxRecDepth 100000
set_option maxHeartbeats 64000000
namespace Go.Proofs.YtlhpjfnfemebdaaGreat
open Go.RowKit
theorem Ar:type_of% @heap_alloc_new:=@heap_alloc_new
theorem Bh:type_of% @beq_false_of_ne:=@beq_false_of_ne
theorem Bd:type_of% @bodyPost_ret:=@bodyPost_ret
theorem AM:type_of% @List.getD_eq_getElem?_getD:=@List.getD_eq_getElem?_getD
theorem Bf:type_of% @List.getElem?_eq_getElem:=@List.getElem?_eq_getElem
theorem BO:type_of% @Array.getElem?_eq_some_iff:=@Array.getElem?_eq_some_iff
theorem CE:type_of% @info_parts:=@info_parts
theorem CO:type_of% @World.ownsRow_nil:=@World.ownsRow_nil
theorem Bs:type_of% @List.length_append:=@List.length_append
theorem Ak:type_of% @Below.refl:=@Below.refl
theorem BT:type_of% @Int.toNat_natCast:=@Int.toNat_natCast
theorem BG:type_of% @List.pairwise_cons:=@List.pairwise_cons
theorem Ci:type_of% @Bool.and_eq_true:=@Bool.and_eq_true
theorem Fh:type_of% @ownsRow_setCell_below:=@ownsRow_setCell_below
theorem AQ:type_of% @Nat.le_refl:=@Nat.le_refl
theorem Ey:type_of% @List.getElem_of_mem:=@List.getElem_of_mem
theorem Br:type_of% @List.mem_cons:=@List.mem_cons
theorem Cg:type_of% @List.mem_range:=@List.mem_range
theorem CJ:type_of% @List.mem_append:=@List.mem_append
theorem Ds:type_of% @List.mem_singleton:=@List.mem_singleton
theorem CP:type_of% @Nat.le_trans:=@Nat.le_trans
theorem DJ:type_of% @List.mem_map:=@List.mem_map
theorem EU:type_of% @decide_eq_true_iff:=@decide_eq_true_iff
theorem Cj:type_of% @decide_eq_false:=@decide_eq_false
theorem Ck:type_of% @decide_eq_true:=@decide_eq_true
theorem Fi:type_of% @List.length_map:=@List.length_map
theorem Ez:type_of% @List.take_length:=@List.take_length
theorem DS:type_of% @IntWalk.i64_in:=@IntWalk.i64_in
theorem Ec:type_of% @List.map_append:=@List.map_append
theorem Aa{p:Prop}(h:p):Hid p:=Lib.hid h
theorem Bo {P:Program} {id:Nat} {Q:Exit→Act→World→Prop} {a:Act} {w:World} {l:List Oper} (n:Nat) (hm:P.follows .mixedOrders=true) (hB:Region.lexTailB .any l.toArray n=true)
 (h:wpStill P l.toArray w.drew (fun a'=>wpList P l.toArray Q (l.drop n) a' w.drew) (l.take n) a):(Code.region id l.toArray true).wp P Q a w:=wp_region_still_tail n hm hB h
def Bk(w:World):Type:={w':World // Below w.heap.size w w'}
instance (w:World):Nonempty (Bk w):=⟨⟨w,Ak _ _⟩⟩
theorem AD {P:Program} {id:Nat} {Q:Exit→Act→World→Prop} {a:Act} {w:World} {l:List Oper} (hm:P.follows .mixedOrders=true) (hB:Region.lexB .any l.toArray=true)
 (h:wpQuiet P l.toArray (fun w'=>∃i:Bk w,w'=i.1) (fun a'=>∀w',Below w.heap.size w w'→Q .normal a' w') l a):(Code.region id l.toArray true).wp P Q a w:=by
 refine wp_region_quiet (C:=fun w'=>∃i:Bk w,w'=i.1) hm hB ⟨⟨w.drew,(Ak _ _).drew⟩,rfl⟩ ?_;have e:(fun a'=>∀w',(∃i:Bk w,w'=i.1)→Q .normal a' w')=(fun a'=>∀w',Below w.heap.size w w'→Q .normal a' w'):=by
  funext a';apply propext
  exact⟨fun h w' hw=>h w' ⟨⟨w',hw⟩,rfl⟩,fun h w' ⟨i,hi⟩=>by subst hi;exact h _ i.2⟩
 rw[e];simpa using h
theorem Calls.sub_of {P:Program} {f:FuncId} {args:Array Value} {w:World} {i:Bk w} {v:Value}
 (h:Calls P f args i.1 fun e w'=>e=.returned v∧Below i.1.heap.size i.1 w'):Calls P f args i.1 fun e w''=>e=.returned v∧∃j:Bk w,w''=j.1:=
 h.mono fun _ w' ⟨he,hb⟩=>⟨he,⟨w',i.2.trans (hb.mono i.2.size)⟩,rfl⟩
theorem Bk.cell{w:World}(i:Bk w){p:Addr}{v:Value}(h:w.cell? p=some v):i.1.cell? p=some v:=by
 rw[i.2.cell (World.block_lt_of_cell? w p h)];exact h
theorem Af{w w':World}(hb:Below w.heap.size w w'){p:Addr}{v:Value}(h:w.cell? p=some v):w'.cell? p=some v:=by
 rw[hb.cell (World.block_lt_of_cell? w p h)];exact h
theorem JN{w w':World}(hb:Below w.heap.size w w'){a0 a1 a2:Addr}{v0 v1 v2:Value}(h0:w.cell? a0=some v0)(h1:w.cell? a1=some v1)(h2:w.cell? a2=some v2):w'.cell? a0=some v0∧w'.cell? a1=some v1∧w'.cell? a2=some v2:=⟨Af hb h0,Af hb h1,Af hb h2⟩
theorem Zf{w w':World}(hb:Below w.heap.size w w'){a0 a1 a2 a3:Addr}{v0 v1 v2 v3:Value}(h0:w.cell? a0=some v0)(h1:w.cell? a1=some v1)(h2:w.cell? a2=some v2)(h3:w.cell? a3=some v3):w'.cell? a0=some v0∧w'.cell? a1=some v1∧w'.cell? a2=some v2∧w'.cell? a3=some v3:=⟨Af hb h0,Af hb h1,Af hb h2,Af hb h3⟩
theorem gL{w w':World}(hb:Below w.heap.size w w'){a0 a1 a2 a3 a4 a5:Addr}{v0 v1 v2 v3 v4 v5:Value}(h0:w.cell? a0=some v0)(h1:w.cell? a1=some v1)(h2:w.cell? a2=some v2)(h3:w.cell? a3=some v3)(h4:w.cell? a4=some v4)(h5:w.cell? a5=some v5):w'.cell? a0=some v0∧w'.cell? a1=some v1∧w'.cell? a2=some v2∧w'.cell? a3=some v3∧w'.cell? a4=some v4∧w'.cell? a5=some v5:=⟨Af hb h0,Af hb h1,Af hb h2,Af hb h3,Af hb h4,Af hb h5⟩
theorem hH{w w':World}(hb:Below w.heap.size w w'){a0 a1 a2 a3 a4 a5 a6:Addr}{v0 v1 v2 v3 v4 v5 v6:Value}(h0:w.cell? a0=some v0)(h1:w.cell? a1=some v1)(h2:w.cell? a2=some v2)(h3:w.cell? a3=some v3)(h4:w.cell? a4=some v4)(h5:w.cell? a5=some v5)(h6:w.cell? a6=some v6):w'.cell? a0=some v0∧w'.cell? a1=some v1∧w'.cell? a2=some v2∧w'.cell? a3=some v3∧w'.cell? a4=some v4∧w'.cell? a5=some v5∧w'.cell? a6=some v6:=⟨Af hb h0,Af hb h1,Af hb h2,Af hb h3,Af hb h4,Af hb h5,Af hb h6⟩
theorem gG{w w':World}(hb:Below w.heap.size w w'){a0 a1 a2 a3 a4 a5 a6 a7 a8:Addr}{v0 v1 v2 v3 v4 v5 v6 v7 v8:Value}(h0:w.cell? a0=some v0)(h1:w.cell? a1=some v1)(h2:w.cell? a2=some v2)(h3:w.cell? a3=some v3)(h4:w.cell? a4=some v4)(h5:w.cell? a5=some v5)(h6:w.cell? a6=some v6)(h7:w.cell? a7=some v7)(h8:w.cell? a8=some v8):w'.cell? a0=some v0∧w'.cell? a1=some v1∧w'.cell? a2=some v2∧w'.cell? a3=some v3∧w'.cell? a4=some v4∧w'.cell? a5=some v5∧w'.cell? a6=some v6∧w'.cell? a7=some v7∧w'.cell? a8=some v8:=⟨Af hb h0,Af hb h1,Af hb h2,Af hb h3,Af hb h4,Af hb h5,Af hb h6,Af hb h7,Af hb h8⟩
theorem eH{w w':World}(hb:Below w.heap.size w w'){a0 a1 a2 a3 a4 a5 a6 a7 a8 a9 a10:Addr}{v0 v1 v2 v3 v4 v5 v6 v7 v8 v9 v10:Value}(h0:w.cell? a0=some v0)(h1:w.cell? a1=some v1)(h2:w.cell? a2=some v2)(h3:w.cell? a3=some v3)(h4:w.cell? a4=some v4)(h5:w.cell? a5=some v5)(h6:w.cell? a6=some v6)(h7:w.cell? a7=some v7)(h8:w.cell? a8=some v8)(h9:w.cell? a9=some v9)(h10:w.cell? a10=some v10):w'.cell? a0=some v0∧w'.cell? a1=some v1∧w'.cell? a2=some v2∧w'.cell? a3=some v3∧w'.cell? a4=some v4∧w'.cell? a5=some v5∧w'.cell? a6=some v6∧w'.cell? a7=some v7∧w'.cell? a8=some v8∧w'.cell? a9=some v9∧w'.cell? a10=some v10:=⟨Af hb h0,Af hb h1,Af hb h2,Af hb h3,Af hb h4,Af hb h5,Af hb h6,Af hb h7,Af hb h8,Af hb h9,Af hb h10⟩
theorem Ah{w w':World}(hb:Below w.heap.size w w'){k:Nat}{o:Obj}(h:w.heap[k]?=some o):w'.heap[k]?=some o:=by
 rw[hb.block k (BO.1 h).1];exact h
structure Bn(F:Nat→Prop)(w w':World):Prop where
 os:w'.os=w.os
 tape:w'.tape=w.tape
 output:w'.output=w.output
 size:w.heap.size≤w'.heap.size
 block:∀k,k<w.heap.size→¬F k→w'.heap[k]?=w.heap[k]?
theorem Bn.refl(F:Nat→Prop)(w:World):Bn F w w:=⟨rfl,rfl,rfl,AQ _,fun _ _ _=>rfl⟩
theorem Bn.trans{F:Nat→Prop}{a b c:World}(h:Bn F a b)(k:Bn F b c):Bn F a c:=
 ⟨k.os.trans h.os,k.tape.trans h.tape,k.output.trans h.output,CP h.size k.size,fun i hi hF=>(k.block i (Nat.lt_of_lt_of_le hi h.size) hF).trans (h.block i hi hF)⟩
theorem Bn.trans'{F G:Nat→Prop}{a b c:World}(h:Bn F a b)(k:Bn G b c)(hG:∀i,i<a.heap.size→G i→F i):Bn F a c:=
 ⟨k.os.trans h.os,k.tape.trans h.tape,k.output.trans h.output,CP h.size k.size,fun i hi hF=>(k.block i (Nat.lt_of_lt_of_le hi h.size) (fun g=>hF (hG i hi g))).trans (h.block i hi hF)⟩
theorem Bn.mono{F G:Nat→Prop}{w w':World}(h:Bn F w w')(hFG:∀k,k<w.heap.size→F k→G k):Bn G w w':=
 ⟨h.os,h.tape,h.output,h.size,fun k hk hG=>h.block k hk (fun f=>hG (hFG k hk f))⟩
theorem Bn.drew{F:Nat→Prop}{a w:World}(h:Bn F a w):Bn F a w.drew:=⟨h.os,h.tape,h.output,h.size,h.block⟩
theorem Bn.alloc{F:Nat→Prop}{a w:World}(h:Bn F a w)(o:Obj):Bn F a (w.alloc o):=
 ⟨h.os,h.tape,h.output,by simp;have:=h.size;omega,fun k hk hF=>(Below.heap_alloc w o k (Nat.lt_of_lt_of_le hk h.size)).trans (h.block k hk hF)⟩
theorem Bn.setCell{F:Nat→Prop}{a w:World}(h:Bn F a w){p:Addr}(hp:p.block<a.heap.size→F p.block)(u:Value):Bn F a (w.setCell p u):=
 ⟨h.os,h.tape,h.output,by simpa using h.size,fun k hk hF=>(Below.heap_setCell w p u k (fun e=>hF (e▸hp (e▸hk)))).trans (h.block k hk hF)⟩
theorem Bn.grown{F:Nat→Prop}{a w w':World}{row:Option Nat}(h:Bn F a w)(hg:w.grownBy w' row)(hr:∀k,row=some k→k<a.heap.size→F k):Bn F a w':=
 ⟨hg.os.trans h.os,hg.tape.trans h.tape,hg.output.trans h.output,CP h.size hg.size,
  fun k hk hF=>(hg.block k (Nat.lt_of_lt_of_le hk h.size) (fun e=>hF (hr k e.symm hk))).trans (h.block k hk hF)⟩
theorem Df{w w':World}(h:Below w.heap.size w w')(F:Nat→Prop):Bn F w w':=⟨h.os,h.tape,h.output,h.size,fun k hk _=>h.block k hk⟩
theorem Bn.below{F:Nat→Prop}{w w':World}(h:Bn F w w'){B:Nat}(hB:∀k,F k→B≤k)(hw:B≤w.heap.size):Below B w w':=
 ⟨h.os,h.tape,h.output,h.size,fun k hk=>h.block k (Nat.lt_of_lt_of_le hk hw) (fun f=>by have:=hB k f;omega)⟩
theorem Bn.heap{F:Nat→Prop}{w w':World}(hb:Bn F w w'){k:Nat}{o:Obj}(h:w.heap[k]?=some o)(hF:¬F k):w'.heap[k]?=some o:=by
 rw[hb.block k (BO.1 h).1 hF];exact h
theorem Bn.cell{F:Nat→Prop}{w w':World}(hb:Bn F w w'){p:Addr}{v:Value}(h:w.cell? p=some v)(hF:¬F p.block):w'.cell? p=some v:=by
 rw[World.cell?_of_block (w:=w) (hb.block p.block (World.block_lt_of_cell? w p h) hF)];exact h
theorem Ab{w:World}{b:Nat}{c:Array Value}{t:TypeId}{fr:Nat×Nat}(h:w.heap[b]?=some (.cells c t fr))(i:Nat)(v:Value)(hi:c[i]?=some v):w.cell? ⟨b,i,none⟩=some v:=by
 simp[World.cell?,h,hi]
theorem Ag{w:World}{b:Nat}{c:Array Value}{t:TypeId}(h:w.heap[b]?=some (.cells c t (0,0)))(i:Nat):w.frozen? ⟨b,i,none⟩=false:=by
 simp[World.frozen?,h]
theorem Wz{w:World}{b:Nat}{x0 x1:Value}{r:List Value}{t:TypeId}{f:Nat×Nat}(h:w.heap[b]?=some (.cells (x0::x1::r).toArray t f)):w.cell? ⟨b,0,none⟩=some x0∧w.cell? ⟨b,1,none⟩=some x1:=⟨Ab h 0 _ rfl,Ab h 1 _ rfl⟩
theorem DY{w:World}{b:Nat}{x0 x1 x2:Value}{r:List Value}{t:TypeId}{f:Nat×Nat}(h:w.heap[b]?=some (.cells (x0::x1::x2::r).toArray t f)):w.cell? ⟨b,0,none⟩=some x0∧w.cell? ⟨b,1,none⟩=some x1∧w.cell? ⟨b,2,none⟩=some x2:=⟨Ab h 0 _ rfl,Ab h 1 _ rfl,Ab h 2 _ rfl⟩
theorem BX{w:World}{b:Nat}{x0 x1 x2 x3:Value}{r:List Value}{t:TypeId}{f:Nat×Nat}(h:w.heap[b]?=some (.cells (x0::x1::x2::x3::r).toArray t f)):w.cell? ⟨b,0,none⟩=some x0∧w.cell? ⟨b,1,none⟩=some x1∧w.cell? ⟨b,2,none⟩=some x2∧w.cell? ⟨b,3,none⟩=some x3:=⟨Ab h 0 _ rfl,Ab h 1 _ rfl,Ab h 2 _ rfl,Ab h 3 _ rfl⟩
theorem gI{w:World}{b:Nat}{x0 x1 x2 x3 x4:Value}{r:List Value}{t:TypeId}{f:Nat×Nat}(h:w.heap[b]?=some (.cells (x0::x1::x2::x3::x4::r).toArray t f)):w.cell? ⟨b,0,none⟩=some x0∧w.cell? ⟨b,1,none⟩=some x1∧w.cell? ⟨b,2,none⟩=some x2∧w.cell? ⟨b,3,none⟩=some x3∧w.cell? ⟨b,4,none⟩=some x4:=⟨Ab h 0 _ rfl,Ab h 1 _ rfl,Ab h 2 _ rfl,Ab h 3 _ rfl,Ab h 4 _ rfl⟩
theorem JS{w:World}{b:Nat}{x0 x1 x2 x3 x4 x5:Value}{r:List Value}{t:TypeId}{f:Nat×Nat}(h:w.heap[b]?=some (.cells (x0::x1::x2::x3::x4::x5::r).toArray t f)):w.cell? ⟨b,0,none⟩=some x0∧w.cell? ⟨b,1,none⟩=some x1∧w.cell? ⟨b,2,none⟩=some x2∧w.cell? ⟨b,3,none⟩=some x3∧w.cell? ⟨b,4,none⟩=some x4∧w.cell? ⟨b,5,none⟩=some x5:=⟨Ab h 0 _ rfl,Ab h 1 _ rfl,Ab h 2 _ rfl,Ab h 3 _ rfl,Ab h 4 _ rfl,Ab h 5 _ rfl⟩
theorem LD{w:World}{b:Nat}{x0 x1 x2 x3 x4 x5 x6:Value}{r:List Value}{t:TypeId}{f:Nat×Nat}(h:w.heap[b]?=some (.cells (x0::x1::x2::x3::x4::x5::x6::r).toArray t f)):w.cell? ⟨b,0,none⟩=some x0∧w.cell? ⟨b,1,none⟩=some x1∧w.cell? ⟨b,2,none⟩=some x2∧w.cell? ⟨b,3,none⟩=some x3∧w.cell? ⟨b,4,none⟩=some x4∧w.cell? ⟨b,5,none⟩=some x5∧w.cell? ⟨b,6,none⟩=some x6:=⟨Ab h 0 _ rfl,Ab h 1 _ rfl,Ab h 2 _ rfl,Ab h 3 _ rfl,Ab h 4 _ rfl,Ab h 5 _ rfl,Ab h 6 _ rfl⟩
theorem gV{w:World}{b:Nat}{c:Array Value}{t:TypeId}(h:w.heap[b]?=some (.cells c t (0,0))):w.frozen? ⟨b,0,none⟩=false∧w.frozen? ⟨b,1,none⟩=false:=⟨Ag h 0,Ag h 1⟩
theorem eP{w:World}{b:Nat}{c:Array Value}{t:TypeId}(h:w.heap[b]?=some (.cells c t (0,0))):w.frozen? ⟨b,0,none⟩=false∧w.frozen? ⟨b,1,none⟩=false∧w.frozen? ⟨b,2,none⟩=false:=⟨Ag h 0,Ag h 1,Ag h 2⟩
theorem Nx{w:World}{b:Nat}{c:Array Value}{t:TypeId}(h:w.heap[b]?=some (.cells c t (0,0))):w.frozen? ⟨b,0,none⟩=false∧w.frozen? ⟨b,1,none⟩=false∧w.frozen? ⟨b,2,none⟩=false∧w.frozen? ⟨b,3,none⟩=false:=⟨Ag h 0,Ag h 1,Ag h 2,Ag h 3⟩
theorem fR{w:World}{b:Nat}{c:Array Value}{t:TypeId}(h:w.heap[b]?=some (.cells c t (0,0))):w.frozen? ⟨b,0,none⟩=false∧w.frozen? ⟨b,1,none⟩=false∧w.frozen? ⟨b,2,none⟩=false∧w.frozen? ⟨b,3,none⟩=false∧w.frozen? ⟨b,4,none⟩=false∧w.frozen? ⟨b,5,none⟩=false:=⟨Ag h 0,Ag h 1,Ag h 2,Ag h 3,Ag h 4,Ag h 5⟩
theorem Ac{w:World}{b:Nat}{c:Array Value}{t:TypeId}{fr:Nat×Nat}(h:w.heap[b]?=some (.cells c t fr))(i:Nat)(v:Value):
 (w.setCell ⟨b,i,none⟩ v).heap[b]?=some (.cells (c.setIfInBounds i v) t fr):=by
 simp only[World.setCell,Array.getElem?_modify,if_true,h,Option.map_some];rfl
theorem AG(w:World)(o:Obj)(k:Nat)(hk:k=w.heap.size):(w.alloc o).heap[k]?=some o:=by subst hk;exact Ar w o
theorem Qu{w:World}{base:Nat}{e:TypeId}{size:Nat}{g n:Nat}{xs:List Value}(h:w.ownsRow base e size (.slice (some ⟨g,0,none⟩) n n) n xs):w.heap[g]?=some (.cells xs.toArray e (0,0)):=by
 rcases h.2 with⟨hv,_⟩ | ⟨g',cap,cur,hv,_,hg,_,_,hs,ht⟩
 ·cases hv
 ·cases hv;have:cur.toList=xs:=by rw[← ht,List.take_of_length_le (by simp[hs])]
  rw[hg,← this]
theorem DP(z:Value)(n:Nat):(madeCells #[z] n).toList=List.replicate n z:=by
 apply List.ext_getElem?;intro i;by_cases h:i<n
 ·simp[madeCells,h,Nat.mod_one]
 ·simp[madeCells,h]
theorem BE {P:Program} (w:World) {ops:Array Oper} {rest:List Oper} {o:Oper} {a:Act} {Q:Exit→Act→World→Prop}
 (hg:o.guard=none) (l c:Operand) (t:TypeId) (hop:o.op=Op.makeSlice t l c)
 (e:TypeId) (z:Value) (hz:z.cells=#[z]) (bytes:Nat) (h1:P.underlying t=some (.slice e)) (h2:(P.info? e).map (fun i=>(i.zero,i.size,i.bytes))=some (some z,1,bytes))
 (kl kc:IntKind) (L C:Int) (n:Nat) (hl:a.eval l=.int kl L) (hc:a.eval c=.int kc C) (hL:L=(n:Int)) (hC:C=(n:Int)) (b2:bytes*n≤281474976710656) (b3:n≤maxLen)
 (hK:∀w',w'.heap[w.heap.size]?=some (.cells (List.replicate n z).toArray e (0,0))→Below w.heap.size w w'→w.heap.size<w'.heap.size→wpList P ops Q rest (a.put o.dst (.slice (some ⟨w.heap.size,0,none⟩) n n)) w'):
 wpList P ops Q (o::rest) a w:=by
 obtain⟨i,hi,hz0,hz1,hz2⟩:=CE h2;refine wpList_make_full w hg l c t hop 0 e i z 1 h1 hi hz0 hz1 kl kc L C n hl hc hL hC (by rw[hz2];exact b2) b3 (Nat.zero_le _) ?_;intro w' hown hgr;have hh:=Qu hown;rw[Nat.mul_one,hz,DP]at hh;refine hK w' hh ((Ak _ _).grown hgr (AQ _) (fun k hk=>by cases hk)) (BO.1 hh).1
theorem BD{B:Nat}{a w:World}(h:Below B a w)(n:Nat):Below B a (w.drewN n):=⟨h.os,h.tape,h.output,h.size,h.block⟩
def Am(w:World)(v:Value)(xs:List Int):Prop:=
 ∃a cap,v=.slice a xs.length cap∧∀j,j<xs.length→∃b off,a=some ⟨b,off,none⟩∧w.cell? ⟨b,off+j,none⟩=some (.int .i64 (xs.getD j 0))
def Bc(w:World)(v:Value)(xs:List Bool):Prop:=
 ∃a cap,v=.slice a xs.length cap∧∀j,j<xs.length→∃b off,a=some ⟨b,off,none⟩∧w.cell? ⟨b,off+j,none⟩=some (.bool (xs.getD j false))
abbrev Ed:=Int×Int×Int
def Ax(w:World)(v:Value)(l:List Ed):Prop:=
 ∃a cap,v=.slice a l.length cap∧∀j,j<l.length→∃b off,a=some ⟨b,off,none⟩∧w.cell? ⟨b,off+j*3,none⟩=some (.int .i64 (l.getD j (0,0,0)).1)∧
  w.cell? ⟨b,off+j*3+1,none⟩=some (.int .i64 (l.getD j (0,0,0)).2.1)∧w.cell? ⟨b,off+j*3+2,none⟩=some (.int .i64 (l.getD j (0,0,0)).2.2)
structure Gr where
 S:List Int
 A:List Int
 T:List Int
structure Ao(w:World)(v:Value)(g:Gr):Prop where
 ex:∃s a t,v=.agg #[s,a,t]∧Am w s g.S∧Am w a g.A∧Am w t g.T
 sS:g.S.length≤1000000
 sA:g.A.length≤1000000
 sT:g.T.length≤1000000
theorem Am.below{w w':World}{v:Value}{l:List Int}(h:Am w v l)(hb:Below w.heap.size w w'):Am w' v l:=
 let ⟨a,cap,h1,h2⟩:=h
 ⟨a,cap,h1,fun j hj=>let ⟨b,off,e,hc⟩:=h2 j hj;⟨b,off,e,Af hb hc⟩⟩
theorem Bc.below{w w':World}{v:Value}{l:List Bool}(h:Bc w v l)(hb:Below w.heap.size w w'):Bc w' v l:=
 let ⟨a,cap,h1,h2⟩:=h
 ⟨a,cap,h1,fun j hj=>let ⟨b,off,e,hc⟩:=h2 j hj;⟨b,off,e,Af hb hc⟩⟩
theorem Ax.below{w w':World}{v:Value}{l:List Ed}(h:Ax w v l)(hb:Below w.heap.size w w'):Ax w' v l:=
 let ⟨a,cap,h1,h2⟩:=h
 ⟨a,cap,h1,fun j hj=>let ⟨b,off,e,hc,hd,he⟩:=h2 j hj;⟨b,off,e,Af hb hc,Af hb hd,Af hb he⟩⟩
theorem Ao.below{w w':World}{v:Value}{g:Gr}(h:Ao w v g)(hb:Below w.heap.size w w'):Ao w' v g:=
 let ⟨⟨s,a,t,e,h1,h2,h3⟩,h4,h5,h6⟩:=h
 ⟨⟨s,a,t,e,h1.below hb,h2.below hb,h3.below hb⟩,h4,h5,h6⟩
theorem Ae(w:World)(o:Obj):Below w.heap.size w (w.alloc o):=(Ak _ _).alloc (AQ _) o
theorem BM(w:World):Am w (.slice none 0 0) []:=⟨none,0,rfl,fun j hj=>by simp at hj⟩
theorem Eh(w:World):Ax w (.slice none 0 0) []:=⟨none,0,rfl,fun j hj=>by simp at hj⟩
theorem DB(w:World):Ao w (.agg #[.slice none 0 0,.slice none 0 0,.slice none 0 0]) ⟨[],[],[]⟩:=
 ⟨⟨_,_,_,rfl,BM w,BM w,BM w⟩,by simp,by simp,by simp⟩
def ints(xs:List Int):Array Value:=(xs.map (fun x:Int=>Value.int .i64 x)).toArray
theorem Bw(xs:List Int)(p:Nat)(hp:p<xs.length):(ints xs)[p]?=some (.int .i64 (xs.getD p 0)):=by
 simp[ints,List.getD,hp]
theorem Fc(xs:List Int)(p:Nat)(v:Int):(ints xs).setIfInBounds p (.int .i64 v)=ints (xs.set p v):=by
 unfold ints;simp[List.map_set]
theorem Ge(n:Nat):ints (List.replicate n 0)=(List.replicate n (Value.int .i64 0)).toArray:=by
 unfold ints;rw[List.map_replicate]
theorem BQ{w:World}{b n:Nat}{xs:List Int}(h:w.heap[b]?=some (.cells (ints xs) 3 (0,0)))(hn:n=xs.length)(cap:Nat):Am w (.slice (some ⟨b,0,none⟩) n cap) xs:=by
 subst hn;exact⟨_,cap,rfl,fun j hj=>⟨b,0,rfl,Ab h _ _ (by rw[Nat.zero_add];exact Bw xs j hj)⟩⟩
theorem JM{α:Type}(l:List α)(p:Nat)(v z:α)(hp:p<l.length):(l.set p v).getD p z=v:=by simp[List.getD,hp]
theorem Iv{α:Type}(l:List α)(p q:Nat)(v z:α)(h:p≠q):(l.set p v).getD q z=l.getD q z:=by simp[List.getD,h]
structure Rt(g:Gr):Prop where
 ne:0<g.S.length
 first:g.S.getD 0 0=0
 last:g.S.getD (g.S.length - 1) 0=g.T.length
 lens:g.A.length=g.T.length
 mono:∀i,i+1<g.S.length→g.S.getD i 0≤g.S.getD (i+1) 0
 tos:∀k,k<g.T.length→0≤g.T.getD k 0∧g.T.getD k 0+1<g.S.length∧0≤g.A.getD k 0
def Bj(g:Gr):Bool:=
 decide (0<g.S.length)&&decide (g.S.getD 0 0=0)&&decide (g.S.getD (g.S.length - 1) 0=g.T.length)&&decide (g.A.length=g.T.length)&&
  (List.range (g.S.length - 1)).all (fun i=>decide (g.S.getD i 0≤g.S.getD (i+1) 0))&&
  (List.range g.T.length).all (fun k=>decide (0≤g.T.getD k 0)&&decide (g.T.getD k 0+1<g.S.length)&&decide (0≤g.A.getD k 0))
theorem Aq(g:Gr):Bj g=true↔Rt g:=by
 simp only[Bj,Ci,decide_eq_true_eq,List.all_eq_true,Cg];constructor
 ·rintro⟨⟨⟨⟨⟨h1,h2⟩,h3⟩,h4⟩,h5⟩,h6⟩;exact⟨h1,h2,h3,h4,fun i hi=>h5 i (by omega),fun k hk=>let ⟨⟨a,b⟩,c⟩:=h6 k hk;⟨a,b,c⟩⟩
 ·rintro⟨h1,h2,h3,h4,h5,h6⟩;exact⟨⟨⟨⟨⟨h1,h2⟩,h3⟩,h4⟩,fun i hi=>h5 i (by omega)⟩,fun k hk=>⟨⟨(h6 k hk).1,(h6 k hk).2.1⟩,(h6 k hk).2.2⟩⟩
theorem AZ{g:Gr}(h:¬Rt g):Bj g=false:=by
 cases e:Bj g
 ·rfl
 ·exact(h ((Aq g).1 e)).elim
def st(g:Gr)(i:Nat):Nat:=(g.S.getD i 0).toNat
def edge(g:Gr)(i k:Nat):Ed:=((i:Int),g.A.getD k 0,g.T.getD k 0)
def Dy(g:Gr)(i m:Nat):List Ed:=(List.range' (st g i) m).map (edge g i)
def Lw(g:Gr)(i:Nat):List Ed:=Dy g i (st g (i+1) - st g i)
def Du(g:Gr)(a m:Nat):List Ed:=(List.range' a m).flatMap (Lw g)
theorem Jm(g:Gr)(i m:Nat):Dy g i (m+1)=Dy g i m++[edge g i (st g i+m)]:=by
 simp[Dy,List.range'_concat]
theorem Ho(g:Gr)(i m:Nat):(Dy g i m).length=m:=by simp[Dy]
theorem Jo(g:Gr)(a m:Nat):Du g a (m+1)=Du g a m++Lw g (a+m):=by
 simp[Du,List.range'_concat]
theorem Rt.mono'{g:Gr}(h:Rt g){i:Nat}:∀j,i≤j→j<g.S.length→g.S.getD i 0≤g.S.getD j 0
 | 0,hij,_=>by obtain rfl:i=0:=by omega
               exact Int.le_refl _
 | j+1,hij,hj=>by
  by_cases e:i=j+1
  ·rw[e];exact Int.le_refl _
  ·exact Int.le_trans (h.mono' j (by omega) (by omega)) (h.mono j hj)
theorem Rt.st{g:Gr}(h:Rt g){i:Nat}(hi:i<g.S.length):g.S.getD i 0=(st g i:Int):=by
 have:=h.mono' (i:=0) i (Nat.zero_le _) hi;rw[h.first]at this;unfold Proofs.YtlhpjfnfemebdaaGreat.st;omega
theorem Rt.stLe{g:Gr}(h:Rt g){i j:Nat}(hij:i≤j)(hj:j<g.S.length):Proofs.YtlhpjfnfemebdaaGreat.st g i≤Proofs.YtlhpjfnfemebdaaGreat.st g j:=by
 have:=h.mono' j hij hj;rw[h.st hj,h.st (by omega)]at this;omega
theorem Rt.stTop{g:Gr}(h:Rt g){i:Nat}(hi:i<g.S.length):Proofs.YtlhpjfnfemebdaaGreat.st g i≤g.T.length:=by
 have h1:=h.mono' (i:=i) (g.S.length - 1) (by omega) (by omega);rw[h.last,h.st hi]at h1;omega
theorem KT{g:Gr}(h:Rt g)(a:Nat):∀m,a+m<g.S.length→(Du g a m).length=st g (a+m) - st g a
 | 0,_=>by simp[Du]
 | m+1,hm=>by
  rw[Jo,Bs,KT h a m (by omega),Lw,Ho];have h1:=h.stLe (i:=a) (j:=a+m) (by omega) (by omega);have h2:=h.stLe (i:=a+m) (j:=a+m+1) (by omega) (by omega);have e:a+(m+1)=a+m+1:=rfl;rw[e];omega
def BV{α:Type}(m:Nat)(f:Nat→α):List α:=(List.range m).map f
theorem AJ{α:Type}(m:Nat)(f:Nat→α):(BV m f).length=m:=by simp[BV]
theorem BW{α:Type}(m:Nat)(f:Nat→α)(z:α)(j:Nat)(hj:j<m):(BV m f).getD j z=f j:=by simp[BV,List.getD,hj]
theorem MI{α:Type}(m:Nat)(f g:Nat→α)(j:Nat)(v:α)(hv:j<m→g j=v)(hg:∀x,x<m→x≠j→g x=f x):(BV m f).set j v=BV m g:=by
 apply List.ext_getElem?;intro i;simp only[BV,List.getElem?_set,List.getElem?_map,Fi,List.length_range];by_cases hi:i<m
 ·by_cases hij:j=i
  ·subst hij;simp[hi,hv hi]
  ·simp[hij,hi,hg i hi (fun e=>hij e.symm)]
 ·by_cases hij:j=i
  ·subst hij;simp[hi]
  ·simp[hij,hi]
theorem Lk{α:Type}(m:Nat)(f g:Nat→α)(h:∀j,j<m→f j=g j):BV m f=BV m g:=by
 unfold BV;apply List.map_congr_left;intro a ha;exact h a (Cg.1 ha)
def Mg(n:Int)(e:Ed):Bool:=decide (0≤e.1∧e.1<n∧0≤e.2.2∧e.2.2<n∧0≤e.2.1)
def De(l:List Ed)(i:Nat):List Ed:=l.filter (fun e=>decide (e.1=(i:Int)))
def Fv(l:List Ed)(i:Nat):Nat:=(De l i).length
def Bl(l:List Ed)(i:Nat):Nat:=(l.filter (fun e=>decide (e.1<(i:Int)))).length
theorem Cv(l:List Ed)(i:Nat):Bl l (i+1)=Bl l i+Fv l i:=by
 unfold Bl Fv De
 induction l with
 | nil=>rfl
 | cons e l ih=>
  simp only[List.filter_cons];by_cases h1:e.1<(i:Int)
  ·have h2:e.1<((i+1:Nat):Int):=by omega
   have h3:¬e.1=(i:Int):=by omega
   simp only[h1,h2,h3,decide_true,decide_false,if_true,List.length_cons,Bool.false_eq_true,if_false,ih];omega
  ·by_cases h3:e.1=(i:Int)
   ·have h2:e.1<((i+1:Nat):Int):=by omega
    simp only[h3,decide_true,if_true,List.length_cons];have h4:¬((i:Int)<(i:Int)):=by omega
    have h5:((i:Int)<((i+1:Nat):Int)):=by omega
    simp only[h4,h5,decide_true,decide_false,if_true,Bool.false_eq_true,if_false,List.length_cons,ih];omega
   ·have h2:¬e.1<((i+1:Nat):Int):=by omega
    simp only[h1,h2,h3,decide_false,Bool.false_eq_true,if_false,ih]
theorem EQ{l:List Ed}(h:∀e∈l,0≤e.1):Bl l 0=0:=by
 unfold Bl;rw[List.length_eq_zero_iff,List.filter_eq_nil_iff];intro e he;have:=h e he;simp;omega
theorem FV{l:List Ed}{n:Nat}(h:∀e∈l,e.1<(n:Int)):Bl l n=l.length:=by
 unfold Bl;rw[List.filter_eq_self.2];intro e he;simpa using h e he
theorem Gc(l:List Ed){i j:Nat}(h:i≤j):Bl l i≤Bl l j:=by
 induction j with
 | zero=>obtain rfl:i=0:=by omega
         exact AQ _
 | succ j ih=>
  by_cases hij:i=j+1
  ·rw[hij];exact AQ _
  ·rw[Cv];have:=ih (by omega);omega
theorem Dr(l:List Ed)(k i:Nat)(hk:k<l.length):Fv (l.take (k+1)) i=Fv (l.take k) i+if(l.getD k (0,0,0)).1=(i:Int) then 1 else 0:=by
 unfold Fv De;rw[List.take_add_one,Bf hk,Option.toList_some,List.filter_append,Bs];have:l.getD k (0,0,0)=l[k]:=by simp[List.getD,hk]
 rw[this];by_cases h:l[k].1=(i:Int) <;> simp[h]
theorem LM(l:List Ed)(k i:Nat):Fv (l.take k) i≤Fv l i:=by
 unfold Fv De;exact(List.Sublist.filter _ (List.take_sublist k l)).length_le
theorem cI(l:List Ed)(k f:Nat)(hk:k<l.length)(hf:(l.getD k (0,0,0)).1=(f:Int)):Fv (l.take k) f<Fv l f∧(De l f).getD (Fv (l.take k) f) (0,0,0)=l.getD k (0,0,0):=by
 have e:l.getD k (0,0,0)=l[k]:=by simp[List.getD,hk]
 rw[e]at hf ⊢;have hsplit:De l f=De (l.take k) f++l[k]::De (l.drop (k+1)) f:=by
  unfold De;have h1:l=l.take k++l[k]::l.drop (k+1):=by
   rw[List.getElem_cons_drop,List.take_append_drop]
  conv=>lhs;rw[h1]
  rw[List.filter_append,List.filter_cons];simp[hf]
 constructor
 ·unfold Fv;rw[hsplit];simp
 ·rw[hsplit];unfold Fv;simp[List.getD]
def Gn(n:Nat)(l:List Ed)(h:Ed→Int):List Int:=(List.range n).flatMap (fun i=>(De l i).map h)
def Iq(n:Nat)(l:List Ed):Gr:=⟨BV (n+1) (fun i=>(Bl l i:Int)),Gn n l (fun e=>e.2.1),Gn n l (fun e=>e.2.2)⟩
def AY(n:Int)(l:List Ed):Bool:=decide (0≤n∧n≤100000)&&l.all (Mg n)
def Ai(n:Int)(l:List Ed):Gr:=if AY n l=true then Iq n.toNat l else⟨[],[],[]⟩
def DF(n:Int)(l:List Ed):Int:=if AY n l=true then 0 else 1
theorem Jp(n:Nat)(l:List Ed)(h:Ed→Int):Gn (n+1) l h=Gn n l h++(De l n).map h:=by
 simp[Gn,List.range_succ]
theorem Gb{l:List Ed}(h0:∀e∈l,0≤e.1)(h:Ed→Int):∀n,(Gn n l h).length=Bl l n
 | 0=>by rw[EQ h0];simp[Gn]
 | n+1=>by rw[Jp,Bs,Gb h0 h n,Cv,Fi];rfl
theorem Kg{l:List Ed}(h0:∀e∈l,0≤e.1)(h:Ed→Int):∀n i r,i<n→r<Fv l i→(Gn n l h).getD (Bl l i+r) 0=h ((De l i).getD r (0,0,0))
 | 0,i,r,hi,_=>by omega
 | n+1,i,r,hi,hr=>by
  rw[Jp];have hl:=Gb h0 h n;by_cases hin:i=n
  ·subst hin;have hr':r<(De l i).length:=hr;simp only[List.getD];rw[List.getElem?_append_right (by omega),hl];simp[hr']
  ·have hlt:Bl l i+r<Bl l n:=by
    have:=Gc l (show i+1≤n by omega);rw[Cv]at this;omega
   have:=Kg h0 h n i r (by omega) hr;simp only[List.getD]at this ⊢;rw[List.getElem?_append_left (by omega)];exact this
theorem Yq{l:List Ed}(h0:∀e∈l,0≤e.1):∀n p,p<Bl l n→∃i r,i<n∧r<Fv l i∧p=Bl l i+r
 | 0,p,hp=>by rw[EQ h0]at hp;omega
 | n+1,p,hp=>by
  by_cases h:p<Bl l n
  ·obtain⟨i,r,h1,h2,h3⟩:=Yq h0 n p h;exact⟨i,r,by omega,h2,h3⟩
  ·rw[Cv]at hp;exact⟨n,p - Bl l n,by omega,by omega,by omega⟩
theorem Wd{l:List Ed}{i j r s:Nat}(hr:r<Fv l i)(hs:s<Fv l j)(h:Bl l i+r=Bl l j+s):i=j∧r=s:=by
 have hij:i=j:=by
  apply Classical.byContradiction;intro hne;rcases Nat.lt_or_gt_of_ne hne with hlt | hgt
  ·have:=Gc l (show i+1≤j from hlt);rw[Cv]at this;omega
  ·have:=Gc l (show j+1≤i from hgt);rw[Cv]at this;omega
 subst hij;exact⟨rfl,by omega⟩
def JV(n:Nat)(l:List Ed)(h:Ed→Int)(k:Nat)(A:List Int):Prop:=
 A.length=l.length∧∀i,i<n→∀r,r<Fv (l.take k) i→A.getD (Bl l i+r) 0=h ((De l i).getD r (0,0,0))
theorem NG{n:Nat}{l:List Ed}{h:Ed→Int}{A:List Int}(h0:∀e∈l,0≤e.1)(hn:∀e∈l,e.1<(n:Int))(hc:JV n l h l.length A):A=Gn n l h:=by
 have hl:=Gb h0 h n;rw[FV hn]at hl;apply List.ext_getElem?;intro p;by_cases hp:p<l.length
 ·obtain⟨i,r,h1,h2,h3⟩:=Yq h0 n p (by rw[FV hn];exact hp);have e1:=hc.2 i h1 r (by rw[Ez];exact h2);have e2:=Kg h0 h n i r h1 h2;rw[← h3]at e1 e2;rw[← e2]at e1;have hA:p<A.length:=by rw[hc.1];exact hp
  have hF:p<(Gn n l h).length:=by rw[hl];exact hp
  rw[Bf hA,Bf hF];simpa[List.getD,hA,hF]using e1
 ·rw[List.getElem?_eq_none (by rw[hc.1];omega),List.getElem?_eq_none (by omega)]
theorem LH{n:Nat}{l:List Ed}{h:Ed→Int}{A:List Int}{k f:Nat}(hc:JV n l h k A)(hn:∀e∈l,e.1<(n:Int))(hk:k<l.length)(hf:(l.getD k (0,0,0)).1=(f:Int))(hfn:f<n):
 Bl l f+Fv (l.take k) f<l.length∧JV n l h (k+1) (A.set (Bl l f+Fv (l.take k) f) (h (l.getD k (0,0,0)))):=by
 obtain⟨q1,q2⟩:=cI l k f hk hf;have hlt:Bl l f+Fv (l.take k) f<l.length:=by
  have h1:=Gc l (show f+1≤n from hfn);rw[Cv,FV hn]at h1;omega
 refine⟨hlt,by rw[List.length_set];exact hc.1,?_⟩;intro i hi r hr;rw[Dr l k i hk,hf]at hr;by_cases hp:Bl l f+Fv (l.take k) f=Bl l i+r
 ·rw[← hp,JM _ _ _ _ (by rw[hc.1];exact hlt)];have hr':r<Fv l i:=by
   have:=LM l (k+1) i;rw[Dr l k i hk,hf]at this;omega
  obtain⟨rfl,rfl⟩:=Wd q1 hr' hp;rw[q2]
 ·rw[Iv _ _ _ _ _ hp];apply hc.2 i hi r;by_cases hif:(f:Int)=(i:Int)
  ·have:f=i:=by omega
   subst this;simp at hr;have:r≠Fv (l.take k) f:=fun e=>hp (by rw[e]);omega
  ·rw[if_neg hif]at hr;omega
def ZD(n:Nat)(l:List Ed):List Int:=BV (n+1) (fun j=>if j=0 then 0 else(Fv l (j - 1):Int))
theorem aM(n:Nat):ZD n []=List.replicate (n+1) 0:=by
 apply List.ext_getElem?;intro i;simp only[ZD,BV,List.getElem?_map,List.getElem?_replicate];by_cases hi:i<n+1 <;> simp[hi,Fv,De]
theorem XK{n:Nat}{l:List Ed}{k f:Nat}(hk:k<l.length)(hf:(l.getD k (0,0,0)).1=(f:Int))(hfn:f<n):
 (ZD n (l.take k)).getD (f+1) 0=(Fv (l.take k) f:Int)∧(ZD n (l.take k)).set (f+1) ((Fv (l.take k) f:Int)+1)=ZD n (l.take (k+1)):=by
 constructor
 ·rw[ZD,BW _ _ _ _ (by omega)];simp
 ·apply MI
  ·intro _;rw[if_neg (by omega),Dr l k _ hk,hf];simp
  ·intro x _ hne;by_cases hx:x=0
   ·simp[hx]
   ·rw[if_neg hx,if_neg hx,Dr l k _ hk,hf,if_neg (by omega)];simp
def Zn(n:Nat)(l:List Ed)(i:Nat):List Int:=BV (n+1) (fun j=>if j≤i then(Bl l j:Int) else(Fv l (j - 1):Int))
theorem XM(n:Nat){l:List Ed}(h0:∀e∈l,0≤e.1):ZD n l=Zn n l 0:=by
 apply Lk;intro j _;by_cases hj:j=0
 ·subst hj;simp[EQ h0]
 ·rw[if_neg hj,if_neg (by omega)]
theorem aN(n:Nat)(l:List Ed):Zn n l n=(Iq n l).S:=by
 apply Lk;intro j hj;rw[if_pos (by omega)]
theorem Xp{n:Nat}{l:List Ed}{i:Nat}(hi:i<n):
 (Zn n l i).getD (i+1) 0=(Fv l i:Int)∧(Zn n l i).getD i 0=(Bl l i:Int)∧(Zn n l i).set (i+1) ((Fv l i:Int)+(Bl l i:Int))=Zn n l (i+1):=by
 refine⟨?_,?_,?_⟩
 ·rw[Zn,BW _ _ _ _ (by omega),if_neg (by omega)];simp
 ·rw[Zn,BW _ _ _ _ (by omega),if_pos (by omega)]
 ·apply MI
  ·intro _;rw[if_pos (by omega),Cv];omega
  ·intro x _ hne;by_cases hx:x≤i
   ·rw[if_pos hx,if_pos (by omega)]
   ·rw[if_neg hx,if_neg (by omega)]
def nx(n:Nat)(l:List Ed)(k:Nat):List Int:=BV (n+1) (fun j=>(Bl l j:Int)+(Fv (l.take k) j:Int))
theorem aX(n:Nat)(l:List Ed):nx n l 0=(Iq n l).S:=by
 apply Lk;intro j _;simp[Fv,De]
theorem aY{n:Nat}{l:List Ed}{k f:Nat}(hk:k<l.length)(hf:(l.getD k (0,0,0)).1=(f:Int))(hfn:f<n):
 (nx n l k).getD f 0=((Bl l f+Fv (l.take k) f:Nat):Int)∧(nx n l k).set f (((Bl l f+Fv (l.take k) f:Nat):Int)+1)=nx n l (k+1):=by
 constructor
 ·rw[nx,BW _ _ _ _ (by omega)];simp
 ·apply MI
  ·intro _;rw[Dr l k _ hk,hf];simp;omega
  ·intro x _ hne;rw[Dr l k _ hk,hf,if_neg (by omega)];simp
theorem Lh(n:Nat)(l:List Ed):(Iq n l).S.length=n+1:=AJ _ _
def Av(g:Gr):List Ed:=if Bj g=true then Du g 0 (g.S.length - 1) else []
theorem CM{g:Gr}(h:Rt g):Av g=Du g 0 (g.S.length - 1):=by unfold Av;rw[if_pos ((Aq g).2 h)]
theorem Gf{g:Gr}(h:Bj g=false):Av g=[]:=by unfold Av;rw[h];rfl
theorem Fz{g:Gr}{i:Nat}{e:Ed}(h:e∈Lw g i):e.1=(i:Int):=by
 simp only[Lw,Dy,DJ]at h;obtain⟨k,-,rfl⟩:=h
 rfl
theorem Lt(f:Nat→List Ed)(hf:∀j e,e∈f j→e.1=(j:Int))(i:Nat):∀n,De ((List.range n).flatMap f) i=if i<n then f i else []
 | 0=>rfl
 | n+1=>by
  have ih:=Lt f hf i n;unfold De at ih ⊢;rw[List.range_succ,List.flatMap_append,List.filter_append,ih];simp only[List.flatMap_cons,List.flatMap_nil,List.append_nil];by_cases h:i=n
  ·subst h;rw[if_neg (by omega),if_pos (by omega),List.nil_append,List.filter_eq_self];intro e he;simp[hf i e he]
  ·have:(f n).filter (fun e=>decide (e.1=(i:Int)))=[]:=by
    rw[List.filter_eq_nil_iff];intro e he;rw[hf n e he];simp;omega
   rw[this,List.append_nil];by_cases hlt:i<n
   ·rw[if_pos hlt,if_pos (by omega)]
   ·rw[if_neg hlt,if_neg (by omega)]
theorem Uc(f:Nat→List Ed)(hf:∀j e,e∈f j→e.1=(j:Int))(n i:Nat)(hi:i<n):Bl ((List.range n).flatMap f) (i+1)=Bl ((List.range n).flatMap f) i+(f i).length:=by
 rw[Cv,Fv,Lt f hf i n,if_pos hi]
theorem Mv(f:Nat→List Ed)(hf:∀j e,e∈f j→e.1=(j:Int))(n:Nat):∀e∈(List.range n).flatMap f,0≤e.1:=by
 intro e he;obtain⟨j,-,hj⟩:=List.mem_flatMap.1 he;rw[hf j e hj];omega
theorem FO(g:Gr)(n:Nat):Du g 0 n=(List.range n).flatMap (Lw g):=by
 unfold Du;rw[List.range_eq_range']
theorem KM{g:Gr}(h:Rt g):∀i,i<g.S.length→Bl (Av g) i=st g i
 | 0,_=>by
  rw[CM h,FO,EQ (Mv _ (fun j e=>Fz) _)];unfold st;rw[h.first];rfl
 | i+1,hi=>by
  have ih:=KM h i (by omega);have h1:=h.stLe (i:=i) (j:=i+1) (by omega) hi;rw[CM h,FO]at ih ⊢;rw[Uc _ (fun j e=>Fz) _ _ (by omega),ih,Lw,Ho];omega
theorem YW{g:Gr}(h:Rt g){i:Nat}(hi:i+1<g.S.length):De (Av g) i=Lw g i:=by
 rw[CM h,FO,Lt _ (fun j e=>Fz),if_pos (by omega)]
theorem Ta{g:Gr}(h:Rt g)(X:List Int)(p:Ed→Int)(hX:X.length=g.T.length)(hp:∀i k,p (edge g i k)=X.getD k 0):Gn (g.S.length - 1) (Av g) p=X:=by
 have key:∀n,n<g.S.length→Gn n (Av g) p=X.take (st g n):=by
  intro n
  induction n with
  | zero=>
   intro _;have:st g 0=0:=by unfold st;rw[h.first];rfl
   rw[this];simp[Gn]
  | succ n ih=>
   intro hn;rw[Jp,ih (by omega),YW h hn];have h1:=h.stLe (i:=n) (j:=n+1) (by omega) hn;have h2:=h.stTop (i:=n+1) hn;apply List.ext_getElem?;intro k;simp only[Lw,Dy,List.map_map];by_cases hk:k<st g n
   ·rw[List.getElem?_append_left (by simp;omega),List.getElem?_take,List.getElem?_take,if_pos hk,if_pos (by omega)]
   ·rw[List.getElem?_append_right (by simp;omega)];have hl:(X.take (st g n)).length=st g n:=by simp;omega
    rw[hl,List.getElem?_map,List.getElem?_take];by_cases hk2:k<st g (n+1)
    ·rw[if_pos hk2,List.getElem?_range' (by omega)];have e:st g n+1*(k - st g n)=k:=by omega
     rw[e];simp only[Option.map_some,Function.comp_apply,hp];simp[List.getD,Bf (show k<X.length by omega)]
    ·rw[if_neg hk2,List.getElem?_eq_none (by simp;omega)];rfl
 rw[key _ (by have:=h.ne;omega)];have:st g (g.S.length - 1)=X.length:=by
  have:=h.last;rw[h.st (by have:=h.ne;omega)]at this;omega
 rw[this,Ez]
theorem bE{g:Gr}(h:Rt g):Iq (g.S.length - 1) (Av g)=g:=by
 have hne:=h.ne;have h1:BV (g.S.length - 1+1) (fun i=>(Bl (Av g) i:Int))=g.S:=by
  apply List.ext_getElem?;intro i;simp only[BV,List.getElem?_map];by_cases hi:i<g.S.length
  ·have:=h.st hi;rw[List.getElem?_range (by omega),Option.map_some,KM h i hi,← this];simp[List.getD,hi]
  ·rw[List.getElem?_eq_none (by simp;omega),List.getElem?_eq_none (by omega)];rfl
 unfold Iq;rw[h1,Ta h g.A _ h.lens (fun i k=>rfl),Ta h g.T _ rfl (fun i k=>rfl)]
theorem Ej{n:Nat}{l:List Ed}(h:AY n l=true):n≤100000∧∀e∈l,0≤e.1∧e.1<(n:Int)∧0≤e.2.2∧e.2.2<(n:Int)∧0≤e.2.1:=by
 simp only[AY,Ci,List.all_eq_true,Mg,decide_eq_true_eq]at h;exact⟨by omega,h.2⟩
theorem JK{n:Nat}{l:List Ed}(hn:n≤100000)(h:∀e∈l,0≤e.1∧e.1<(n:Int)∧0≤e.2.2∧e.2.2<(n:Int)∧0≤e.2.1):AY n l=true:=by
 simp only[AY,Ci,List.all_eq_true,Mg,decide_eq_true_eq];exact⟨by omega,h⟩
theorem Jt{n:Nat}{l:List Ed}(h:AY n l=true):Ai n l=Iq n l:=by simp[Ai,h]
theorem Ia{n:Int}{l:List Ed}(h:AY n l=false):Ai n l=⟨[],[],[]⟩:=by simp[Ai,h]
theorem Yr{n:Nat}{l:List Ed}(h:AY n l=true):(Iq n l).T.length=l.length∧(Iq n l).A.length=l.length:=by
 obtain⟨-,hm⟩:=Ej h;have h0:∀e∈l,0≤e.1:=fun e he=>(hm e he).1;have h1:∀e∈l,e.1<(n:Int):=fun e he=>(hm e he).2.1;exact⟨by show(Gn n l _).length=_;rw[Gb h0,FV h1],by show(Gn n l _).length=_;rw[Gb h0,FV h1]⟩
theorem Ra{n:Nat}(l:List Ed){i:Nat}(hi:i≤n):(Iq n l).S.getD i 0=(Bl l i:Int):=BW _ _ _ _ (by omega)
theorem Zl{n:Nat}(l:List Ed){i:Nat}(hi:i≤n):st (Iq n l) i=Bl l i:=by unfold st;rw[Ra l hi];simp
theorem Rh{n:Nat}{l:List Ed}{p:Ed→Int}{x:Int}(h:x∈Gn n l p):∃e∈l,p e=x:=by
 simp only[Gn,List.mem_flatMap,DJ,De,List.mem_filter]at h;obtain⟨i,-,e,⟨he,-⟩,rfl⟩:=h;exact⟨e,he,rfl⟩
theorem Ch{l:List Int}{k:Nat}(h:k<l.length):l.getD k 0∈l:=by
 simp[List.getD,h]
theorem Hf{n:Nat}{l:List Ed}(h:AY n l=true):Rt (Iq n l):=by
 obtain⟨-,hm⟩:=Ej h;have h0:∀e∈l,0≤e.1:=fun e he=>(hm e he).1;have h1:∀e∈l,e.1<(n:Int):=fun e he=>(hm e he).2.1;obtain⟨hT,hA⟩:=Yr h;have hS:=Lh n l;refine⟨by omega,?_,?_,by omega,?_,?_⟩
 ·rw[Ra l (by omega),EQ h0];rfl
 ·rw[hS,Ra l (by omega),hT];have:n+1 - 1=n:=by omega
  rw[this,FV h1]
 ·intro i hi;rw[Ra l (by omega),Ra l (by omega)];have:=Gc l (show i≤i+1 by omega);omega
 ·intro k hk;obtain⟨e,he,h2⟩:=Rh (Ch hk);obtain⟨e',he',h3⟩:=Rh (Ch (show k<(Iq n l).A.length by omega));have a:=hm e he;have b:=hm e' he';have e1:(Iq n l).T.getD k 0=e.2.2:=h2.symm;have e2:(Iq n l).A.getD k 0=e'.2.1:=h3.symm;rw[e1,e2,hS];omega
theorem Vb{n:Nat}{l:List Ed}(h:AY n l=true){i:Nat}(hi:i<n):Lw (Iq n l) i=De l i:=by
 obtain⟨-,hm⟩:=Ej h;have h0:∀e∈l,0≤e.1:=fun e he=>(hm e he).1;unfold Lw Dy;rw[Zl l (show i+1≤n by omega),Zl l (show i≤n by omega),Cv];have hc:Bl l i+Fv l i - Bl l i=Fv l i:=by omega
 rw[hc];apply List.ext_getElem?;intro r;rw[List.getElem?_map];by_cases hr:r<Fv l i
 ·rw[List.getElem?_range' hr];have hr':r<(De l i).length:=hr;have e:Bl l i+1*r=Bl l i+r:=by omega
  have hA:=Kg h0 (fun e=>e.2.1) n i r hi hr;have hT:=Kg h0 (fun e=>e.2.2) n i r hi hr;have hx:(De l i)[r]∈De l i:=List.getElem_mem hr';have hx1:(De l i)[r].1=(i:Int):=by
   have:=(List.mem_filter.1 hx).2;simpa using this
  rw[e,Bf hr',Option.map_some]
  congr 1
  have hg:(De l i).getD r (0,0,0)=(De l i)[r]:=by simp[List.getD,hr']
  rw[hg]at hA hT;unfold edge;show((i:Int),(Gn n l _).getD _ 0,(Gn n l _).getD _ 0)=_;rw[hA,hT,← hx1]
 ·rw[List.getElem?_eq_none (by simp;omega),List.getElem?_eq_none (show(De l i).length≤r from by unfold Fv at hr;omega)];rfl
theorem YS{n:Nat}{l:List Ed}(h:AY n l=true):Av (Iq n l)=(List.range n).flatMap (De l):=by
 rw[CM (Hf h),FO,Lh];have:n+1 - 1=n:=by omega
 rw[this];have hc:∀m,m≤n→(List.range m).flatMap (Lw (Iq n l))=(List.range m).flatMap (De l):=by
  intro m
  induction m with
  | zero=>intro _;rfl
  | succ m ih=>intro hm;rw[List.range_succ,List.flatMap_append,List.flatMap_append,ih (by omega)];simp[Vb h (show m<n by omega)]
 exact hc n (AQ _)
theorem Gp{n:Nat}{l:List Ed}(h:AY n l=true)(e:Ed):e∈Av (Iq n l)↔e∈l:=by
 obtain⟨-,hm⟩:=Ej h;rw[YS h];simp only[List.mem_flatMap,Cg,De,List.mem_filter,decide_eq_true_eq];constructor
 ·rintro⟨i,-,he,-⟩;exact he
 ·intro he;have:=hm e he;exact⟨e.1.toNat,by omega,he,by omega⟩
theorem Bt{g:Gr}(h:Rt g){e:Ed}(he:e∈Av g):0≤e.1∧e.1+1<g.S.length∧0≤e.2.2∧e.2.2+1<g.S.length∧0≤e.2.1:=by
 rw[CM h,FO]at he;obtain⟨i,hi,he⟩:=List.mem_flatMap.1 he;rw[Cg]at hi;simp only[Lw,Dy,DJ,List.mem_range']at he;obtain⟨k,⟨r,hr,rfl⟩,rfl⟩:=he;have h1:=h.stTop (i:=i+1) (by omega);have h2:=h.tos (st g i+1*r) (by omega);simp only[edge];omega
theorem Gd{g:Gr}(h:Rt g):(Av g).length=g.T.length:=by
 have hne:=h.ne;have h1:=KT h 0 (g.S.length - 1) (by omega);rw[CM h,h1];have h2:=h.last;rw[h.st (by omega)]at h2;have h3:st g 0=0:=by unfold st;rw[h.first];rfl
 rw[h3,Nat.zero_add];omega
structure WV(w:World)(B:Nat)(sa aa ta:Option Addr)(sc ac tc:Nat)(g:Gr):Prop where
 c0:w.cell? ⟨B,0,none⟩=some (.slice sa g.S.length sc)
 c1:w.cell? ⟨B,1,none⟩=some (.slice aa g.A.length ac)
 c2:w.cell? ⟨B,2,none⟩=some (.slice ta g.T.length tc)
 hs:∀j,j<g.S.length→∃b off,sa=some ⟨b,off,none⟩∧w.cell? ⟨b,off+j,none⟩=some (.int .i64 (g.S.getD j 0))
 ha:∀j,j<g.A.length→∃b off,aa=some ⟨b,off,none⟩∧w.cell? ⟨b,off+j,none⟩=some (.int .i64 (g.A.getD j 0))
 ht:∀j,j<g.T.length→∃b off,ta=some ⟨b,off,none⟩∧w.cell? ⟨b,off+j,none⟩=some (.int .i64 (g.T.getD j 0))
theorem Ao.var{w:World}{v:Value}{g:Gr}(h:Ao w v g):∃sa aa ta sc ac tc,v=.agg #[.slice sa g.S.length sc,.slice aa g.A.length ac,.slice ta g.T.length tc]∧
 WV (w.alloc (.cells #[.slice sa g.S.length sc,.slice aa g.A.length ac,.slice ta g.T.length tc] 32)) w.heap.size sa aa ta sc ac tc g:=by
 obtain⟨⟨s,a,t,rfl,⟨sa,sc,rfl,h1⟩,⟨aa,ac,rfl,h2⟩,⟨ta,tc,rfl,h3⟩⟩,h4,h5,h6⟩:=h;refine⟨sa,aa,ta,sc,ac,tc,rfl,Ab (Ar w _) 0 _ rfl,Ab (Ar w _) 1 _ rfl,Ab (Ar w _) 2 _ rfl,?_,?_,?_⟩
 ·intro j hj;obtain⟨b,off,e,hc⟩:=h1 j hj;exact⟨b,off,e,Af (Ae w _) hc⟩
 ·intro j hj;obtain⟨b,off,e,hc⟩:=h2 j hj;exact⟨b,off,e,Af (Ae w _) hc⟩
 ·intro j hj;obtain⟨b,off,e,hc⟩:=h3 j hj;exact⟨b,off,e,Af (Ae w _) hc⟩
theorem WV.below{w w':World}{B:Nat}{sa aa ta:Option Addr}{sc ac tc:Nat}{g:Gr}(h:WV w B sa aa ta sc ac tc g)(hb:Below w.heap.size w w'):WV w' B sa aa ta sc ac tc g:=by
 obtain⟨c0,c1,c2,h1,h2,h3⟩:=h;refine⟨Af hb c0,Af hb c1,Af hb c2,?_,?_,?_⟩
 ·intro j hj;obtain⟨b,off,e,hc⟩:=h1 j hj;exact⟨b,off,e,Af hb hc⟩
 ·intro j hj;obtain⟨b,off,e,hc⟩:=h2 j hj;exact⟨b,off,e,Af hb hc⟩
 ·intro j hj;obtain⟨b,off,e,hc⟩:=h3 j hj;exact⟨b,off,e,Af hb hc⟩
theorem Jc{x y:Int}(h:x≠y):(!x==y)=true:=by simp[h]
theorem Ky{x y:Int}(h:x≠y):(x !=y)=true:=by simp[h]
theorem CD(x:Int):(!x==x)=false:=by simp
theorem Kp(v:Value)(g:Gr)(w:World)(h:Ao w v g):
 Calls Tryz.prog 96 #[v] w fun e w'=>e=.returned (.bool (Bj g))∧Below w.heap.size w w':=by
 have h4:=h.sS;have h5:=h.sA;have h6:=h.sT;obtain⟨sa,aa,ta,sc,ac,tc,rfl,hv⟩:=h.var;have HB:=Aa (Ae w (.cells #[.slice sa g.S.length sc,.slice aa g.A.length ac,.slice ta g.T.length tc] 32));clear h;go_enter Tryz.func96,Tryz.ntmps96;go_wp2_with fail
 generalize w.alloc _=w1 at*;have HV:=Aa hv;have c0:=hv.c0;have c1:=hv.c1;have c2:=hv.c2;clear hv;by_cases k1:0<g.S.length
 ·obtain⟨b,off,rfl,d0⟩:=HV.out.hs 0 k1;obtain⟨b',off',e,dn⟩:=HV.out.hs (g.S.length - 1) (by omega);cases e;have b1:(g.S.length:Int) - 1<g.S.length:=by omega
  have b2:(0:Int)≤(g.S.length:Int) - 1:=by omega
  have b4:(0:Int)<(g.S.length:Int):=by omega
  have b5:decide ((g.S.length:Int) - 1<0)=false:=by simp;omega
  have b6:decide ((g.S.length:Int)<1)=false:=by simp;omega
  rw[Nat.add_zero]at d0;by_cases k2:g.S.getD 0 0=0
  ·rw[k2]at d0;by_cases k3:g.S.getD (g.S.length - 1) 0=g.T.length
   ·rw[k3]at dn;by_cases k4:g.A.length=g.T.length
    ·rw[k4]at c1;have n0:=CD 0;have nt:=CD (g.T.length:Int);have HK:=Aa (And.intro k2 (And.intro k3 k4));clear k2 k3 k4;go_quiet (fail)
     clear d0 dn;go_wp2_with fail
     obtain⟨n,hn⟩:∃n,g.S.length=n+1:=⟨g.S.length - 1,by omega⟩;have Hn:=Aa hn;have hnl:n+1≤g.S.length:=by omega
     have hnu:g.S.length≤n+1:=by omega
     have e1:(g.S.length:Int) - 1=(n:Int):=by omega
     rw[e1];clear e1 b1 b2 b4 b5 b6 n0 nt;go_loopg [4,41] n (fun fu _ c wr=>∃k:Nat,k+fu=n∧c=.int .i64 k∧(∀i,i<k→g.S.getD i 0≤g.S.getD (i+1) 0)∧Below w1.heap.size w1 wr)
     case atStart=>exact⟨0,by omega,rfl,fun i hi=>by omega,BD (Ak _ _) _⟩
     case round=>
      obtain⟨k,hk,rfl,hall,hb⟩:=hrel;have HA:=Aa hall;obtain⟨x0,x1,x2⟩:=JN hb c0 c1 c2;clear hall hn;by_cases hlt:k<n
      ·obtain⟨b1,o1,e,d0⟩:=HV.out.hs k (by omega);cases e;obtain⟨b1,o1,e,d1⟩:=HV.out.hs (k+1) (by omega);cases e;have y0:=Af hb d0;have y1:=Af hb d1;clear d0 d1;have z1:(k:Int)<(g.S.length:Int):=by omega
       have z2:(k:Int)+1<(g.S.length:Int):=by omega
       have z3:IntKind.i64.wrap ((k:Int)+1)=((k+1:Nat):Int):=by rw[DS _ (by omega)];simp
       by_cases hle:g.S.getD k 0≤g.S.getD (k+1) 0
       ·have hn1:∀i,i<k+1→g.S.getD i 0≤g.S.getD (i+1) 0:=fun i hi=>by
         by_cases hik:i=k
         ·rw[hik];exact hle
         ·exact HA.out i (by omega)
        have HA1:=Aa hn1;have hd:decide (g.S.getD (k+1) 0<g.S.getD k 0)=false:=Cj (by omega);clear hn1 hle;generalize g.S.getD k 0=s0 at*;generalize g.S.getD (k+1) 0=s1 at*;go_wp2_with fail
        go_quiet (fail)
        clear z3;go_wp2_with fail
        go_roundg (gk - 1)
        case measure=>omega
        case rel=>exact⟨k+1,by omega,by simp,HA1.out,BD hb _⟩
       ·have e:=AZ (fun r=>hle (r.mono k (by omega)):¬Rt g);have E:=Aa e;have hd:decide (g.S.getD (k+1) 0<g.S.getD k 0)=true:=Ck (by omega);clear e hle;generalize g.S.getD k 0=s0 at*;generalize g.S.getD (k+1) 0=s1 at*;go_wp2_with fail
        go_quiet (fail)
        clear z3;go_wp2_with fail
        go_ret;exact⟨by rw[E.out];rfl,HB.out.trans ((BD hb _).mono HB.out.size)⟩
      ·have hm:∀i,i+1<g.S.length→g.S.getD i 0≤g.S.getD (i+1) 0:=fun i hi=>HA.out i (by have:=Hn.out;omega);have HM:=Aa hm;clear hm;go_wp2_with fail
       obtain⟨w2,rfl⟩:∃z:World,z=wr:=⟨_,rfl⟩;go_loopg [5,6,60] g.T.length (fun fu _ _ c wr=>∃k:Nat,k+fu=g.T.length∧c=.int .i64 k∧(∀i,i<k→0≤g.T.getD i 0∧g.T.getD i 0+1<g.S.length∧0≤g.A.getD i 0)∧w2=wr)
       case atStart=>exact⟨0,by omega,rfl,fun i hi=>by omega,rfl⟩
       case round=>
        clear hk hlt;obtain⟨k,hk,rfl,hall,rfl⟩:=hrel;have HA2:=Aa hall;clear hall;have hlA:=HK.out.2.2;by_cases hlt:k<g.T.length
        ·obtain⟨bt,ot,rfl,dt⟩:=HV.out.ht k hlt;obtain⟨ba,oa,rfl,da⟩:=HV.out.ha k (by omega);have yt:=Af hb dt;have ya:=Af hb da;clear dt da hlA;have z1:(k:Int)<(g.T.length:Int):=by omega
         by_cases t1:g.T.getD k 0<0
         ·have e:=AZ (fun r=>by have:=(r.tos k hlt).1;omega:¬Rt g);have E:=Aa e;clear e;generalize g.T.getD k 0=tk at*;generalize g.A.getD k 0=ak at*;have f1:decide (tk<0)=true:=Ck t1;go_wp2_with fail
          go_ret;exact⟨by rw[E.out];rfl,HB.out.trans (hb.mono HB.out.size)⟩
         ·have f1:decide (g.T.getD k 0<0)=false:=Cj t1;by_cases t2:(n:Int)≤g.T.getD k 0
          ·have e:=AZ (fun r=>by have:=(r.tos k hlt).2.1;omega:¬Rt g);have E:=Aa e;clear e;have f2:decide ((n:Int)≤g.T.getD k 0)=true:=Ck t2;generalize g.T.getD k 0=tk at*;generalize g.A.getD k 0=ak at*;go_wp2_with fail
           go_ret;exact⟨by rw[E.out];rfl,HB.out.trans (hb.mono HB.out.size)⟩
          ·have f2:decide ((n:Int)≤g.T.getD k 0)=false:=Cj t2;by_cases t3:g.A.getD k 0<0
           ·have e:=AZ (fun r=>by have:=(r.tos k hlt).2.2;omega:¬Rt g);have E:=Aa e;clear e;have f3:decide (g.A.getD k 0<0)=true:=Ck t3;generalize g.T.getD k 0=tk at*;generalize g.A.getD k 0=ak at*;go_wp2_with fail
            go_ret;exact⟨by rw[E.out];rfl,HB.out.trans (hb.mono HB.out.size)⟩
           ·have f3:decide (g.A.getD k 0<0)=false:=Cj t3;have hn3:∀i,i<k+1→0≤g.T.getD i 0∧g.T.getD i 0+1<g.S.length∧0≤g.A.getD i 0:=fun i hi=>by
             by_cases hik:i=k
             ·rw[hik];omega
             ·exact HA2.out i (by omega)
            have HA3:=Aa hn3;clear hn3;generalize g.T.getD k 0=tk at*;generalize g.A.getD k 0=ak at*;go_wp2_with fail
            go_roundg (gk - 1)
            case measure=>omega
            case rel=>exact⟨k+1,by omega,by simp,HA3.out,rfl⟩
        ·have e:=(Aq g).2 ⟨k1,HK.out.1,HK.out.2.1,HK.out.2.2,HM.out,fun i hi=>HA2.out i (by omega)⟩;have E:=Aa e;clear e hlA;go_wp2_with fail
         go_ret;exact⟨by rw[E.out];rfl,HB.out.trans (hb.mono HB.out.size)⟩
    ·have e:=AZ (fun r=>k4 r.lens:¬Rt g);have E:=Aa e;clear e;have n0:=CD 0;have nt:=CD (g.T.length:Int);have na:=Jc (show(g.A.length:Int)≠g.T.length by omega);go_quiet (fail)
     go_wp2
     go_ret;exact⟨by rw[E.out];rfl,BD HB.out _⟩
   ·have e:=AZ (fun r=>k3 r.last:¬Rt g);have E:=Aa e;clear e;have n0:=CD 0;have nt:=Jc k3;have nt2:=Ky k3;clear k3;generalize g.S.getD (g.S.length - 1) 0=xn at*;go_quiet (fail)
    go_wp2
    go_ret;exact⟨by rw[E.out];rfl,BD HB.out _⟩
  ·have e:=AZ (fun r=>k2 r.first:¬Rt g);have E:=Aa e;clear e;have n0:=Jc k2;have n02:=Ky k2;clear k2;generalize g.S.getD 0 0=x0 at*;go_quiet (fail)
   go_wp2
   go_ret;exact⟨by rw[E.out];rfl,BD HB.out _⟩
 ·have e:Bj g=false:=AZ (fun r=>k1 r.ne);have E:=Aa e;have e0:g.S.length=0:=by omega
  rw[e0]at*;clear k1 e;go_quiet (fail)
  go_wp2
  go_ret;exact⟨by rw[E.out];rfl,BD HB.out _⟩
theorem FP(v:Value)(g:Gr)(w:World)(h:Ao w v g):
 Calls Tryz.prog 51 #[v] w fun e w'=>e=.returned (.bool (Bj g))∧Below w.heap.size w w':=by
 have h4:=h.sS;have h5:=h.sA;have h6:=h.sT;obtain⟨sa,aa,ta,sc,ac,tc,rfl,hv⟩:=h.var;have HB:=Aa (Ae w (.cells #[.slice sa g.S.length sc,.slice aa g.A.length ac,.slice ta g.T.length tc] 32));clear h;go_enter Tryz.func51,Tryz.ntmps51;go_wp2_with fail
 generalize w.alloc _=w1 at*;have HV:=Aa hv;have c0:=hv.c0;have c1:=hv.c1;have c2:=hv.c2;clear hv;by_cases k1:0<g.S.length
 ·obtain⟨b,off,rfl,d0⟩:=HV.out.hs 0 k1;obtain⟨b',off',e,dn⟩:=HV.out.hs (g.S.length - 1) (by omega);cases e;have b1:(g.S.length:Int) - 1<g.S.length:=by omega
  have b2:(0:Int)≤(g.S.length:Int) - 1:=by omega
  have b4:(0:Int)<(g.S.length:Int):=by omega
  have b5:decide ((g.S.length:Int) - 1<0)=false:=by simp;omega
  have b6:decide ((g.S.length:Int)<1)=false:=by simp;omega
  rw[Nat.add_zero]at d0;by_cases k2:g.S.getD 0 0=0
  ·rw[k2]at d0;by_cases k3:g.S.getD (g.S.length - 1) 0=g.T.length
   ·rw[k3]at dn;by_cases k4:g.A.length=g.T.length
    ·rw[k4]at c1;have n0:=CD 0;have nt:=CD (g.T.length:Int);have HK:=Aa (And.intro k2 (And.intro k3 k4));clear k2 k3 k4;go_quiet (fail)
     clear d0 dn;go_wp2_with fail
     obtain⟨n,hn⟩:∃n,g.S.length=n+1:=⟨g.S.length - 1,by omega⟩;have Hn:=Aa hn;have hnl:n+1≤g.S.length:=by omega
     have hnu:g.S.length≤n+1:=by omega
     have e1:(g.S.length:Int) - 1=(n:Int):=by omega
     rw[e1];clear e1 b1 b2 b4 b5 b6 n0 nt;go_loopg [4] n (fun fu c wr=>∃k:Nat,k+fu=n∧c=.int .i64 k∧(∀i,i<k→g.S.getD i 0≤g.S.getD (i+1) 0)∧Below w1.heap.size w1 wr)
     case atStart=>exact⟨0,by omega,rfl,fun i hi=>by omega,BD (Ak _ _) _⟩
     case round=>
      obtain⟨k,hk,rfl,hall,hb⟩:=hrel;have HA:=Aa hall;obtain⟨x0,x1,x2⟩:=JN hb c0 c1 c2;clear hall hn;by_cases hlt:k<n
      ·obtain⟨b1,o1,e,d0⟩:=HV.out.hs k (by omega);cases e;obtain⟨b1,o1,e,d1⟩:=HV.out.hs (k+1) (by omega);cases e;have y0:=Af hb d0;have y1:=Af hb d1;clear d0 d1;have z1:(k:Int)<(g.S.length:Int):=by omega
       have z2:(k:Int)+1<(g.S.length:Int):=by omega
       have z3:IntKind.i64.wrap ((k:Int)+1)=((k+1:Nat):Int):=by rw[DS _ (by omega)];simp
       by_cases hle:g.S.getD k 0≤g.S.getD (k+1) 0
       ·have hn1:∀i,i<k+1→g.S.getD i 0≤g.S.getD (i+1) 0:=fun i hi=>by
         by_cases hik:i=k
         ·rw[hik];exact hle
         ·exact HA.out i (by omega)
        have HA1:=Aa hn1;have hd:decide (g.S.getD (k+1) 0<g.S.getD k 0)=false:=Cj (by omega);clear hn1 hle;generalize g.S.getD k 0=s0 at*;generalize g.S.getD (k+1) 0=s1 at*;go_wp2_with fail
        go_quiet (fail)
        clear z3;go_wp2_with fail
        go_roundg (gk - 1)
        case measure=>omega
        case rel=>exact⟨k+1,by omega,by simp,HA1.out,BD hb _⟩
       ·have e:=AZ (fun r=>hle (r.mono k (by omega)):¬Rt g);have E:=Aa e;have hd:decide (g.S.getD (k+1) 0<g.S.getD k 0)=true:=Ck (by omega);clear e hle;generalize g.S.getD k 0=s0 at*;generalize g.S.getD (k+1) 0=s1 at*;go_wp2_with fail
        go_quiet (fail)
        clear z3;go_wp2_with fail
        go_ret;exact⟨by rw[E.out];rfl,HB.out.trans ((BD hb _).mono HB.out.size)⟩
      ·have hm:∀i,i+1<g.S.length→g.S.getD i 0≤g.S.getD (i+1) 0:=fun i hi=>HA.out i (by have:=Hn.out;omega);have HM:=Aa hm;clear hm;go_wp2_with fail
       obtain⟨w2,rfl⟩:∃z:World,z=wr:=⟨_,rfl⟩;go_loopg [5] g.T.length (fun fu c wr=>∃k:Nat,k+fu=g.T.length∧c=.int .i64 k∧(∀i,i<k→0≤g.T.getD i 0∧g.T.getD i 0+1<g.S.length∧0≤g.A.getD i 0)∧w2=wr)
       case atStart=>exact⟨0,by omega,rfl,fun i hi=>by omega,rfl⟩
       case round=>
        clear hk hlt;obtain⟨k,hk,rfl,hall,rfl⟩:=hrel;have HA2:=Aa hall;clear hall;have hlA:=HK.out.2.2;by_cases hlt:k<g.T.length
        ·obtain⟨bt,ot,rfl,dt⟩:=HV.out.ht k hlt;obtain⟨ba,oa,rfl,da⟩:=HV.out.ha k (by omega);have yt:=Af hb dt;have ya:=Af hb da;clear dt da hlA;have z1:(k:Int)<(g.T.length:Int):=by omega
         by_cases t1:g.T.getD k 0<0
         ·have e:=AZ (fun r=>by have:=(r.tos k hlt).1;omega:¬Rt g);have E:=Aa e;clear e;generalize g.T.getD k 0=tk at*;generalize g.A.getD k 0=ak at*;have f1:decide (tk<0)=true:=Ck t1;go_wp2_with fail
          go_ret;exact⟨by rw[E.out];rfl,HB.out.trans (hb.mono HB.out.size)⟩
         ·have f1:decide (g.T.getD k 0<0)=false:=Cj t1;by_cases t2:(n:Int)≤g.T.getD k 0
          ·have e:=AZ (fun r=>by have:=(r.tos k hlt).2.1;omega:¬Rt g);have E:=Aa e;clear e;have f2:decide ((n:Int)≤g.T.getD k 0)=true:=Ck t2;generalize g.T.getD k 0=tk at*;generalize g.A.getD k 0=ak at*;go_wp2_with fail
           go_ret;exact⟨by rw[E.out];rfl,HB.out.trans (hb.mono HB.out.size)⟩
          ·have f2:decide ((n:Int)≤g.T.getD k 0)=false:=Cj t2;by_cases t3:g.A.getD k 0<0
           ·have e:=AZ (fun r=>by have:=(r.tos k hlt).2.2;omega:¬Rt g);have E:=Aa e;clear e;have f3:decide (g.A.getD k 0<0)=true:=Ck t3;generalize g.T.getD k 0=tk at*;generalize g.A.getD k 0=ak at*;go_wp2_with fail
            go_ret;exact⟨by rw[E.out];rfl,HB.out.trans (hb.mono HB.out.size)⟩
           ·have f3:decide (g.A.getD k 0<0)=false:=Cj t3;have hn3:∀i,i<k+1→0≤g.T.getD i 0∧g.T.getD i 0+1<g.S.length∧0≤g.A.getD i 0:=fun i hi=>by
             by_cases hik:i=k
             ·rw[hik];omega
             ·exact HA2.out i (by omega)
            have HA3:=Aa hn3;clear hn3;generalize g.T.getD k 0=tk at*;generalize g.A.getD k 0=ak at*;go_wp2_with fail
            go_roundg (gk - 1)
            case measure=>omega
            case rel=>exact⟨k+1,by omega,by simp,HA3.out,rfl⟩
        ·have e:=(Aq g).2 ⟨k1,HK.out.1,HK.out.2.1,HK.out.2.2,HM.out,fun i hi=>HA2.out i (by omega)⟩;have E:=Aa e;clear e hlA;go_wp2_with fail
         go_ret;exact⟨by rw[E.out];rfl,HB.out.trans (hb.mono HB.out.size)⟩
    ·have e:=AZ (fun r=>k4 r.lens:¬Rt g);have E:=Aa e;clear e;have n0:=CD 0;have nt:=CD (g.T.length:Int);have na:=Jc (show(g.A.length:Int)≠g.T.length by omega);go_quiet (fail)
     go_wp2
     go_ret;exact⟨by rw[E.out];rfl,BD HB.out _⟩
   ·have e:=AZ (fun r=>k3 r.last:¬Rt g);have E:=Aa e;clear e;have n0:=CD 0;have nt:=Jc k3;have nt2:=Ky k3;clear k3;generalize g.S.getD (g.S.length - 1) 0=xn at*;go_quiet (fail)
    go_wp2
    go_ret;exact⟨by rw[E.out];rfl,BD HB.out _⟩
  ·have e:=AZ (fun r=>k2 r.first:¬Rt g);have E:=Aa e;clear e;have n0:=Jc k2;have n02:=Ky k2;clear k2;generalize g.S.getD 0 0=x0 at*;go_quiet (fail)
   go_wp2
   go_ret;exact⟨by rw[E.out];rfl,BD HB.out _⟩
 ·have e:Bj g=false:=AZ (fun r=>k1 r.ne);have E:=Aa e;have e0:g.S.length=0:=by omega
  rw[e0]at*;clear k1 e;go_quiet (fail)
  go_wp2
  go_ret;exact⟨by rw[E.out];rfl,BD HB.out _⟩
def Ad(g:Gr):Nat:=if Bj g=true then g.S.length - 1 else 0
theorem Ap{g:Gr}(h:Rt g):Ad g=g.S.length - 1:=by unfold Ad;rw[if_pos ((Aq g).2 h)]
theorem Cp{g:Gr}(h:Bj g=false):Ad g=0:=by unfold Ad;rw[h];rfl
theorem Hb(v:Value)(g:Gr)(w:World)(h:Ao w v g):
 Calls Tryz.prog 97 #[v] w fun e w'=>e=.returned (.int .i64 (Ad g:Nat))∧Below w.heap.size w w':=by
 have h4:=h.sS;obtain⟨sa,aa,ta,sc,ac,tc,rfl,hv⟩:=h.var;have HB:=Aa (Ae w (.cells #[.slice sa g.S.length sc,.slice aa g.A.length ac,.slice ta g.T.length tc] 32));have HR:=Aa (Kp _ g _ (h.below HB.out));clear h;cases hr:Bj g
 ·have e:=Cp hr;rw[hr]at HR;have E:=Aa e;clear e hr;go_enter Tryz.func97,Tryz.ntmps97;go_wp2_with (first | (go_at_call 96;refine HR.out.mono ?_;rintro e w2 ⟨rfl,hb⟩))
  go_ret;exact⟨by rw[E.out];rfl,HB.out.trans (hb.mono HB.out.size)⟩
 ·have hrt:=(Aq g).1 hr;have e:=Ap hrt;have k1:=hrt.ne;have c0:=hv.c0;rw[hr]at HR;have E:=Aa e;clear e hr hrt hv;go_enter Tryz.func97,Tryz.ntmps97;go_wp2_with (first | (go_at_call 96;refine HR.out.mono ?_;rintro e w2 ⟨rfl,hb⟩;have d0:=Af hb c0))
  go_ret;refine⟨?_,HB.out.trans (hb.mono HB.out.size)⟩;rw[E.out,show((g.S.length - 1:Nat):Int)=(g.S.length:Int) - 1 by omega];rfl
theorem El(v:Value)(g:Gr)(w:World)(h:Ao w v g):
 Calls Tryz.prog 30 #[v] w fun e w'=>e=.returned (.int .i64 (Ad g:Nat))∧Below w.heap.size w w':=by
 have h4:=h.sS;obtain⟨sa,aa,ta,sc,ac,tc,rfl,hv⟩:=h.var;have HB:=Aa (Ae w (.cells #[.slice sa g.S.length sc,.slice aa g.A.length ac,.slice ta g.T.length tc] 32));have HR:=Aa (FP _ g _ (h.below HB.out));clear h;cases hr:Bj g
 ·have e:=Cp hr;rw[hr]at HR;have E:=Aa e;clear e hr;go_enter Tryz.func30,Tryz.ntmps30;go_wp2_with (first | (go_at_call 51;refine HR.out.mono ?_;rintro e w2 ⟨rfl,hb⟩))
  go_ret;exact⟨by rw[E.out];rfl,HB.out.trans (hb.mono HB.out.size)⟩
 ·have hrt:=(Aq g).1 hr;have e:=Ap hrt;have k1:=hrt.ne;have c0:=hv.c0;rw[hr]at HR;have E:=Aa e;clear e hr hrt hv;go_enter Tryz.func30,Tryz.ntmps30;go_wp2_with (first | (go_at_call 51;refine HR.out.mono ?_;rintro e w2 ⟨rfl,hb⟩;have d0:=Af hb c0))
  go_ret;refine⟨?_,HB.out.trans (hb.mono HB.out.size)⟩;rw[E.out,show((g.S.length - 1:Nat):Int)=(g.S.length:Int) - 1 by omega];rfl
theorem Ln(v u:Value)(l:List Int)(w:World)(h:Am w v l)(k:Am w u l)(hl:l.length≤1000000):
 Calls Tryz.prog 12 #[v,u] w fun e w'=>e=.returned (.bool true)∧Below w.heap.size w w':=by
 obtain⟨a,ac,rfl,ha⟩:=h;obtain⟨b,bc,rfl,hb⟩:=k;have HA:=Aa ha;have HB:=Aa hb;clear ha hb;have nl:=CD (l.length:Int);go_enter Tryz.func12,Tryz.ntmps12;go_wp2_with fail
 clear nl;go_loopg [5] l.length (fun fu c wr=>∃k:Nat,k+fu=l.length∧c=.int .i64 k∧Below w.heap.size w wr)
 case atStart=>exact⟨0,by omega,rfl,Ak _ _⟩
 case round=>
  obtain⟨k,hk,rfl,hbw⟩:=hrel;by_cases hlt:k<l.length
  ·obtain⟨b1,o1,rfl,d1⟩:=HA.out k hlt;obtain⟨b2,o2,rfl,d2⟩:=HB.out k hlt;have y1:=Af hbw d1;have y2:=Af hbw d2;have z1:(k:Int)<(l.length:Int):=by omega
   have n1:=CD (l.getD k 0);clear d1 d2;generalize l.getD k 0=x at*;go_wp2_with fail
   go_quiet (fail)
   go_wp2_with fail
   go_roundg (gk - 1)
   case measure=>omega
   case rel=>exact⟨k+1,by omega,by simp,BD hbw _⟩
  ·go_wp2_with fail
   go_ret;exact⟨rfl,hbw⟩
end Go.Proofs.YtlhpjfnfemebdaaGreat
