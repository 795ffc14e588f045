/-
  Layer 4: a disk in memory, its blocks hidden; found, full.
-/
import Derived.Test.YtladegonienapaaGreatDoorRClkDec1
set_option maxRecDepth 100000
set_option maxHeartbeats 16000000
namespace Go.Proofs.YtladegonienapaaGreatDoor
open Go.RowKit Go.Maps Go.Sort
abbrev kY(bm:Nat)(d:Dk):Obj:=.cells #[.map (some bm),.int .i64 d.used,.bool d.lit,.int .i64 d.ou,.bool d.down] 122
abbrev zq(v:Value)(f:Fl):Obj:=.cells #[v,.int .i64 f.lasts,.bool f.stays] 177
structure fB(w:World)(G:Nat→Prop)(bd bm:Nat)(d:Dk)(B:List UInt8→Nat)(V:List UInt8→Value):Prop where
 blk:w.heap[bd]?=some (kY bm d)
 map:bW w bm (d.files.map fun p=>(p.1,.pointer (some ⟨B p.1,0,none⟩)))
 fl: ∀p∈d.files,w.heap[B p.1]?=some (zq (V p.1) p.2)
 own: ∀p∈d.files,aL w 0 (V p.1) p.2.data
 O7: ∀p∈d.files,∀q∈d.files,p.1≠q.1→B p.1≠B q.1
 O6: ∀p∈d.files,∀q∈d.files,p.1≠q.1→ ∀b,(V p.1).ownBlock=some b→(V q.1).ownBlock≠some b
 gd:G bd
 gm:G bm
 gB: ∀p∈d.files,G (B p.1)
 gV: ∀p∈d.files,∀b,(V p.1).ownBlock=some b→G b
 lt: ∀b,G b→b<w.heap.size
 up:bM d.files
 nm:bd≠bm
 nB: ∀p∈d.files,B p.1≠bd∧B p.1≠bm
 nV: ∀p∈d.files,∀b,(V p.1).ownBlock=some b→b≠bd∧b≠bm∧ ∀q∈d.files,b≠B q.1
section
variable{w w':World}{G:Nat→Prop}{bd bm:Nat}{d:Dk}{B:List UInt8→Nat}{V:List UInt8→Value}
theorem aL.bF{w w':World}{base:Nat}{v:Value}{l:List UInt8}(h:aL w base v l)(hb: ∀b,v.ownBlock=some b→w'.heap[b]?=w.heap[b]?):aL w' base v l:=by
 refine⟨h.1,?_⟩;rcases h.2 with⟨e,hl⟩|⟨g,cap,cur,e,hb',hg,hr⟩;·exact .inl ⟨e,hl⟩
 ·exact .inr ⟨g,cap,cur,e,hb',(hb g (by rw[e];rfl)).trans hg,hr⟩
theorem fB.keep(h:fB w G bd bm d B V)(hsz:w.heap.size≤w'.heap.size)(hk: ∀b,G b→w'.heap[b]?=w.heap[b]?):fB w' G bd bm d B V:=⟨(hk _ h.gd).trans h.blk,h.map.block (hk _ h.gm),fun p hp=>(hk _ (h.gB p hp)).trans (h.fl p hp),fun p hp=>(h.own p hp).bF fun b hb=>hk b (h.gV p hp b hb),h.O7,h.O6,h.gd,h.gm,h.gB,h.gV,fun b hb=>Nat.lt_of_lt_of_le (h.lt b hb) hsz,h.up,h.nm,h.nB,h.nV⟩
theorem fB.VU(h:fB w G bd bm d B V)(hb:Below w.heap.size w w'):fB w' G bd bm d B V:=h.keep hb.size fun b hg=>hb.block b (h.lt b hg)
theorem fB.cells(h:fB w G bd bm d B V):w.cell? ⟨bd,0,none⟩=some (.map (some bm))∧w.cell? ⟨bd,1,none⟩=some (.int .i64 d.used)∧w.cell? ⟨bd,2,none⟩=some (.bool d.lit)∧w.cell? ⟨bd,3,none⟩=some (.int .i64 d.ou)∧w.cell? ⟨bd,4,none⟩=some (.bool d.down):=by have key: ∀o,w.cell? ⟨bd,o,none⟩=_:=fun o=>cell_of_row w bd o _ _ (0,0) h.blk;exact⟨(key 0).trans rfl,(key 1).trans rfl,(key 2).trans rfl,(key 3).trans rfl,(key 4).trans rfl⟩
theorem fB.frozen(h:fB w G bd bm d B V)(o:Nat):w.frozen? ⟨bd,o,none⟩=false:=frozen_of_row w bd o _ _ h.blk
end
theorem Bz(w:World)(G:Nat→Prop)(bd bm:Nat)(d:Dk)(B:List UInt8→Nat)(V:List UInt8→Value)(h:fB w G bd bm d B V):Calls Tryz.prog 67 #[.pointer (some ⟨bd,0,none⟩)] w fun e w'=>e=.returned (.bool d.down)∧w=w':=by obtain⟨c0,c1,c2,c3,c4⟩:=h.cells;go_enter Tryz.func67,Tryz.ntmps67;go_wp2;go_ret;exact⟨rfl,rfl⟩
theorem kX(w:World)(G:Nat→Prop)(bd bm:Nat)(d:Dk)(B:List UInt8→Nat)(V:List UInt8→Value)(h:fB w G bd bm d B V)(s:List UInt8):Calls Tryz.prog 119 #[.pointer (some ⟨bd,0,none⟩),.string ⟨s.toArray⟩] w fun e w'=>e=.returned (.int .i64 (d.asked s))∧w=w':=by
 obtain⟨c0,c1,c2,c3,c4⟩:=h.cells;have HA:=qS (d.asked s=if d.down then 8 else if s.length<1∨64<s.length then 1 else 0) (rfl);cases hd:d.down
 ·rw[hd]at c4;by_cases h1:s.length<1;·have HV:=qS (d.asked s=1) (by rw[HA.o,hd,if_neg (by simp),if_pos (.inl h1)]);have hs:s=[]:=List.eq_nil_of_length_eq_zero (by omega);subst hs;clear h1 hd;go_enter Tryz.func119,Tryz.ntmps119;go_wp2;go_ret;exact⟨dB HV.o.symm,rfl⟩
  ·by_cases h2:64<s.length
   ·have HV:=qS (d.asked s=1) (by rw[HA.o,hd,if_neg (by simp),if_pos (.inr h2)]);have t1: ¬(s.length:Int)<1:=by omega
    have t2:(64:Int)<s.length:=by omega
    clear hd;go_enter Tryz.func119,Tryz.ntmps119;go_wp2;go_ret;exact⟨dB HV.o.symm,rfl⟩
   ·have HV:=qS (d.asked s=0) (by rw[HA.o,hd,if_neg (by simp),if_neg (by omega)]);have t1: ¬(s.length:Int)<1:=by omega
    have t2: ¬(64:Int)<s.length:=by omega
    clear hd;go_enter Tryz.func119,Tryz.ntmps119;go_wp2;go_ret;exact⟨dB HV.o.symm,rfl⟩
 ·rw[hd]at c4;have HV:=qS (d.asked s=8) (by rw[HA.o,hd];rfl);clear hd;go_enter Tryz.func119,Tryz.ntmps119;go_wp2;go_ret;exact⟨dB HV.o.symm,rfl⟩
section
variable{w w':World}{G:Nat→Prop}{bd bm:Nat}{d:Dk}{B:List UInt8→Nat}{V:List UInt8→Value}
theorem fB.head(h:fB w G bd bm d B V)(d':Dk)(hf:d'.files=d.files)(hb:w'.heap[bd]?=some (kY bm d'))(hs:w'.heap.size=w.heap.size)(hk: ∀b,b≠bd→w'.heap[b]?=w.heap[b]?):fB w' G bd bm d' B V:=by
 refine⟨hb,?_,?_,?_,?_,?_,h.gd,h.gm,?_,?_,fun b hb=>hs▸h.lt b hb,hf▸h.up,h.nm,hf▸h.nB,hf▸h.nV⟩;·rw[hf];exact h.map.block (hk _ (Ne.symm h.nm))
 ·rw[hf];exact fun p hp=>(hk _ (h.nB p hp).1).trans (h.fl p hp)
 ·rw[hf];exact fun p hp=>(h.own p hp).bF fun b hb=>hk b (h.nV p hp b hb).1
 ·rw[hf];exact h.O7
 ·rw[hf];exact h.O6
 ·rw[hf];exact h.gB
 ·rw[hf];exact h.gV
end
def oK(w:World)(G:Nat→Prop)(bd bm:Nat)(d:Dk)(B:List UInt8→Nat)(V:List UInt8→Value)(e:Ending)(w':World):Prop:=e=.returned (.bool d.jr)∧fB w' G bd bm d.step B V∧ai (·=bd) w w'∧w'.heap.size=w.heap.size
theorem tq(w:World)(G:Nat→Prop)(bd bm:Nat)(d:Dk)(B:List UInt8→Nat)(V:List UInt8→Value)(h:fB w G bd bm d B V)(hf:0≤d.ou∧d.ou≤1000):Calls Tryz.prog 121 #[.pointer (some ⟨bd,0,none⟩)] w (oK w G bd bm d B V):=by
 obtain⟨c0,c1,c2,c3,c4⟩:=h.cells;have f3:=h.frozen 3;have f4:=h.frozen 4;have HH:=qH h;have HB:=qH h.blk;clear h;cases hl:d.lit;·have HR:=qS (oK w G bd bm d B V (.returned (.bool true)) w) (by have:=Dk.lL hl;refine⟨by rw[this.2],?_,ai.refl _ _,rfl⟩;rw[this.1];exact HH.o);rw[hl]at c2;go_enter Tryz.func121,Tryz.ntmps121;go_wp2;go_ret;exact HR.o
 ·rw[hl]at c2;by_cases h0:d.ou=0
  ·have HR:=qS (oK w G bd bm d B V (.returned (.bool false)) (w.setCell ⟨bd,4,none⟩ (.bool true))) (by
    refine⟨by simp[Dk.jr,hl,h0],?_,(ai.refl (fun b=>b=bd) w).setCell (p:=⟨bd,4,none⟩) (fun _=>rfl) _,by simp[World.setCell]⟩;refine HH.o.head _ ?_ ?_ (by simp[World.setCell]) (fun b hb=>Below.heap_setCell _ _ _ _ hb);·simp[Dk.step,hl,h0]
    ·rw[af HB.o];simp[Dk.step,hl,h0]);rw[h0]at c3;clear hl h0;go_enter Tryz.func121,Tryz.ntmps121;go_wp2;go_ret;exact HR.o
  ·have HR:=qS (oK w G bd bm d B V (.returned (.bool true)) (w.setCell ⟨bd,3,none⟩ (.int .i64 (d.ou-1)))) (by
    refine⟨by simp[Dk.jr,hl,h0],?_,(ai.refl (fun b=>b=bd) w).setCell (p:=⟨bd,3,none⟩) (fun _=>rfl) _,by simp[World.setCell]⟩;refine HH.o.head _ ?_ ?_ (by simp[World.setCell]) (fun b hb=>Below.heap_setCell _ _ _ _ hb);·simp[Dk.step,hl,h0]
    ·rw[af HB.o];simp[Dk.step,hl,h0]);clear hl;go_enter Tryz.func121,Tryz.ntmps121;go_wp2;go_ret;exact HR.o
def total:Row Fl→Int|[]=>0|p::m=>p.2.data.length+total m
theorem jK: ∀m:Row Fl,0≤total m|[]=>Int.le_refl _|p::m=>by unfold total;have:=jK m;omega
theorem uP(x:List UInt8×Fl): ∀m:Row Fl,total (fM x m)=x.2.data.length+total m
 |[]=>rfl
 |y::r=>by
  unfold fM;split;·rfl
  ·simp only[total,uP x r];omega
theorem nK: ∀{m:Row Fl},bM m→ ∀k,total (m.filter fun p=>!(p.1==k))+((aA m k).getD Fl.none).data.length=total m
 |[],_,k=>by simp[total,aA,Fl.none]
 |y::r,h,k=>by
  obtain⟨h1,h2⟩:=List.pairwise_cons.1 h;have ih:=nK h2 k;by_cases e:y.1=k
  ·have hn: ∀p∈r,p.1≠k:=fun p hp e'=>by have:=h1 p hp;rw[e,e',aV]at this;cases this
   have hf:r.filter (fun p=>!(p.1==k))=r:=List.filter_eq_self.2 fun p hp=>by simp[hn p hp]
   have hg:aA (y::r) k=some y.2:=by unfold aA;simp[e]
   rw[hg,List.filter_cons,if_neg (by simp[e]),hf];simp only[total,Option.getD_some];omega
  ·have hg:aA (y::r) k=aA r k:=by unfold aA;simp[e]
   rw[hg,List.filter_cons,if_pos (by simp[e])];simp only[total];omega
theorem Dw{m:Row Fl}(h:bM m)(k:List UInt8)(f:Fl):total (aR k f m)=total m-((aA m k).getD Fl.none).data.length+f.data.length:=by unfold aR;rw[uP];have:=nK h k;show(f.data.length:Int)+_=_;omega
theorem uO: ∀{m:Row Fl}{p:List UInt8×Fl},p∈m→(p.2.data.length:Int)≤total m
 |y::r,p,h=>by
  unfold total;rcases List.mem_cons.1 h with rfl|h;·have:=jK r;omega
  ·have:=uO h;omega
structure Dk.Ok(d:Dk):Prop where
 up:bM d.files
 used:d.used=total d.files
 max:d.used≤4194304
 fuse0:0≤d.ou
 fuse1:d.ou≤1000
 num:d.files.length≤4096
 KW: ∀p∈d.files,0≤p.2.lasts∧p.2.lasts≤p.2.data.length
theorem Dk.Md:Dk.new.Ok:=⟨by simp[Dk.new,bM],rfl,by simp[Dk.new],by simp[Dk.new],by simp[Dk.new],by simp[Dk.new],by simp[Dk.new]⟩
theorem Dk.Ok.used0{d:Dk}(h:d.Ok):0≤d.used:=by rw[h.used];exact jK _
theorem Dk.Ok.GH{d:Dk}(h:d.Ok)(s:List UInt8):0≤(d.file s).lasts∧(d.file s).lasts≤(d.file s).data.length:=by unfold Dk.file;cases hg:aA d.files s with|none=>simp[Fl.none]|some f=>exact h.KW _ (ah hg)
theorem Dk.Ok.zt{d:Dk}(h:d.Ok)(s:List UInt8):((d.file s).data.length:Int)≤d.used:=by unfold Dk.file;cases hg:aA d.files s with|none=>simpa[Fl.none]using h.used0|some f=>rw[h.used];exact uO (ah hg)
theorem Dk.Ok.step{d:Dk}(h:d.Ok):d.step.Ok:=by
 unfold Dk.step;split
 ·split;·exact⟨h.up,h.used,h.max,h.fuse0,h.fuse1,h.num,h.KW⟩
  ·exact⟨h.up,h.used,h.max,by have:=h.fuse0;show 0≤d.ou-1;omega,by have:=h.fuse1;show d.ou-1≤1000;omega,h.num,h.KW⟩
 ·exact h
theorem Dk.mF(d:Dk):d.step.files=d.files∧d.step.used=d.used:=by
 unfold Dk.step;split;·split<;>exact⟨rfl,rfl⟩
 ·exact⟨rfl,rfl⟩
theorem Dk.Ok.put{d:Dk}(h:d.Ok)(s:List UInt8)(f:Fl)(u:Int)(hu:u=d.used-(d.file s).data.length+f.data.length)(hm:u≤4194304)(hr:(aA d.files s).isSome=true∨d.files.length<4096)(hl:0≤f.lasts∧f.lasts≤f.data.length):({d.put s f with used:=u}:Dk).Ok:=by
 refine⟨aY h.up _ _,?_,hm,h.fuse0,h.fuse1,?_,fun p hp=>?_⟩;·show u=total (aR s f d.files);rw[hu,Dw h.up,←h.used];rfl
 ·show(aR s f d.files).length≤4096;rcases hr with hr|hr;·exact Nat.le_trans (jA f hr) h.num
  ·have:=df d.files s f;omega
 ·rcases aF.1 hp with rfl|⟨hp,_⟩;·exact hl
  ·exact h.KW p hp
theorem Dk.JR{d:Dk}{s:List UInt8}{m:Int}(h:d.jb s m=false):d.used+m≤4194304∧((aA d.files s).isSome=true∨d.files.length<4096):=by
 unfold Dk.jb at h;rw[Bool.or_eq_false_iff,decide_eq_false_iff_not,Bool.and_eq_false_iff]at h;refine⟨by omega,?_⟩;rcases h.2 with h|h;·left;cases hg:aA d.files s<;>simp_all
 ·right;rw[decide_eq_false_iff_not]at h;omega
theorem Dk.sQ{d:Dk}{s:List UInt8}(h:d.found s=0):d.asked s=0∧(aA d.files s).isSome=true:=by
 unfold Dk.found at h;by_cases h0:d.asked s=0;·refine⟨h0,?_⟩;rw[if_neg (by simp[h0])]at h;cases hg:aA d.files s with|none=>rw[hg]at h;simp at h|some f=>rfl
 ·rw[if_pos h0]at h;exact absurd h h0
theorem Dk.Ok.sync{d:Dk}(h:d.Ok)(s:List UInt8):(d.sync s).Ok:=by
 unfold Dk.sync;split;·exact h
 ·next hf=>
   have hf:=Dk.sQ (Decidable.not_not.1 hf);split;·have hs:=h.step;have:=hs.put s {d.file s with lasts:=(d.file s).data.length,stays:=true} d.step.used (by show d.step.used=d.step.used-(d.step.file s).data.length+((d.file s).data.length:Int);unfold Dk.file;rw[d.mF.1];omega) hs.max (.inl (by rw[d.mF.1];exact hf.2)) ⟨by simp,by simp⟩;exact this
   ·exact h.step
theorem bW.look2{w:World}{b:Nat}{m:Row Value}(h:bW w b m)(k:List UInt8)(hk:k.length≤maxLen)(t e:TypeId)(ht:Tryz.prog.underlying t=some (.map 9 e))(z:Value)(hz:(zeroValue e).run Tryz.prog w=.ok z w):(Instr.lookup t (.map (some b)) (.string ⟨k.toArray⟩) true).run Tryz.prog w=.ok (.tuple #[(aA m k).getD z,.bool (aA m k).isSome]) w:=by obtain⟨v,ps,hr,hv⟩:=World.ownsMap.look_ok h mX ht hz (zd:=.held z) (zp:=[]) rfl (eY k hk);rw[Cw]at hv;rw[hr,yS];simp only[raw,Option.some.injEq,Prod.mk.injEq,DataW.held.injEq]at hv;rw[hv.1]
theorem bW.len{w:World}{b:Nat}{m:Row Value}(h:bW w b m)(t e:TypeId)(ht:Tryz.prog.underlying t=some (.map 9 e))(ty:TypeId):(Builtin.len_ #[t] ty #[.map (some b)]).run Tryz.prog w=.ok (.int .i64 (m.length:Int)) w:=by have:=World.ownsMap.len (show w.ownsMap Tryz.prog 9 raw b _ _ from h) ht ty;rw[this];simp[mapD,Maps.size]
def kC(w:World)(G:Nat→Prop)(bd:Nat)(d:Dk):Prop:=d.Ok∧ ∃bm B V,fB w G bd bm d B V
def IW(w:World)(G:Nat→Prop)(bd:Nat)(d':Dk)(w':World):Prop:= ∃G',kC w' G' bd d'∧(∀b,G' b→G b∨w.heap.size≤b)∧ai G w w'
section
variable{w w':World}{G:Nat→Prop}{bd bm:Nat}{d:Dk}{B:List UInt8→Nat}{V:List UInt8→Value}
theorem kC.keep(h:kC w G bd d)(hsz:w.heap.size≤w'.heap.size)(hk: ∀b,G b→w'.heap[b]?=w.heap[b]?):kC w' G bd d:=by obtain⟨ho,bm,B,V,h⟩:=h;exact⟨ho,bm,B,V,h.keep hsz hk⟩
theorem kC.up(h:kC w G bd d)(hb:Below w.heap.size w w'):kC w' G bd d:=by obtain⟨ho,bm,B,V,h⟩:=h;exact⟨ho,bm,B,V,h.VU hb⟩
theorem kC.lt(h:kC w G bd d): ∀b,G b→b<w.heap.size:=by obtain⟨ho,bm,B,V,h⟩:=h;exact h.lt
theorem IW.refl(h:kC w G bd d):IW w G bd d w:=⟨G,h,fun _ h=>.inl h,ai.refl _ _⟩
theorem Dk.Q7(d:Dk)(B:List UInt8→Nat)(s:List UInt8):aA (d.files.map fun p=>(p.1,(Value.pointer (some ⟨B p.1,0,none⟩)))) s=(aA d.files s).map fun _=>.pointer (some ⟨B s,0,none⟩):=by unfold aA;rw[List.find?_map];cases hf:d.files.find? ((fun p:List UInt8×Value=>p.1==s)∘fun p=>(p.1,(Value.pointer (some ⟨B p.1,0,none⟩))))with|none=>have:d.files.find? (fun p=>p.1==s)=none:=hf;rw[this];rfl|some p=>have h2:d.files.find? (fun p=>p.1==s)=some p:=hf;have:=List.find?_some h2;simp at this;rw[h2];simp[this]
def jB(d:Dk)(B:List UInt8→Nat)(s:List UInt8):Value:=if(aA d.files s).isSome then .pointer (some ⟨B s,0,none⟩)else .pointer none
theorem fB.look(h:fB w G bd bm d B V)(s:List UInt8)(hs:s.length≤1000000):(Instr.lookup 120 (.map (some bm)) (.string ⟨s.toArray⟩) true).run Tryz.prog w=.ok (.tuple #[jB d B s,.bool (aA d.files s).isSome]) w:=by have:=h.map.look2 s (by unfold maxLen;omega) 120 173 Tryz.underlying120 (.pointer none) (by kernel_rfl);rw[this,Dk.Q7];unfold jB;cases aA d.files s<;>rfl
end
theorem zz(w:World)(G:Nat→Prop)(bd bm:Nat)(d:Dk)(B:List UInt8→Nat)(V:List UInt8→Value)(h:fB w G bd bm d B V)(s:List UInt8)(hs:s.length≤1000000):Calls Tryz.prog 115 #[.pointer (some ⟨bd,0,none⟩),.string ⟨s.toArray⟩] w fun e w'=>e=.returned (.tuple #[if d.found s=0 then .pointer (some ⟨B s,0,none⟩)else .pointer none,.int .i64 (d.found s)])∧w=w':=by
 obtain⟨c0,c1,c2,c3,c4⟩:=h.cells;have HL:=qH (h.look s hs);have HA:=qH (kX w G bd bm d B V h s);clear h;by_cases h0:d.asked s=0
 ·rw[h0]at HA;cases hg:aA d.files s with
   |none=>
    have hf:d.found s=6:=by unfold Dk.found;rw[if_neg (by simp[h0]),hg];rfl
    have hl:=HL.o;rw[show jB d B s=.pointer none by unfold jB;rw[hg];rfl,hg]at hl;rw[hf];go_enter Tryz.func115,Tryz.ntmps115;go_wp2_with fail;refine HA.o.mono ?_;rintro e w1⟨rfl,rfl⟩;go_wp2;go_ret2;exact⟨rfl,rfl⟩
   |some f=>
    have hf:d.found s=0:=by unfold Dk.found;rw[if_neg (by simp[h0]),hg];rfl
    have hl:=HL.o;rw[show jB d B s=.pointer (some ⟨B s,0,none⟩)by unfold jB;rw[hg];rfl,hg]at hl;rw[hf];go_enter Tryz.func115,Tryz.ntmps115;go_wp2_with fail;refine HA.o.mono ?_;rintro e w1⟨rfl,rfl⟩;go_wp2;go_ret2;exact⟨rfl,rfl⟩
 ·have hf:d.found s=d.asked s:=by unfold Dk.found;rw[if_pos h0]
  have HF:=qH hf;rw[hf,if_neg h0];go_enter Tryz.func115,Tryz.ntmps115;go_wp2_with fail;refine HA.o.mono ?_;rintro e w1⟨rfl,rfl⟩;go_wp2;go_ret2;exact⟨rfl,rfl⟩
theorem Bv(w:World)(G:Nat→Prop)(bd bm:Nat)(d:Dk)(B:List UInt8→Nat)(V:List UInt8→Value)(h:fB w G bd bm d B V)(ho:d.Ok)(s:List UInt8)(hs:s.length≤1000000)(m:Int)(hm: -1000000000≤m∧m≤1000000000):Calls Tryz.prog 120 #[.pointer (some ⟨bd,0,none⟩),.string ⟨s.toArray⟩,.int .i64 m] w fun e w'=>e=.returned (.bool (d.jb s m))∧w=w':=by
 obtain⟨c0,c1,c2,c3,c4⟩:=h.cells;have HL:=qH (h.look s hs);have hlen: ∀ty,(Builtin.len_ #[120] ty #[.map (some bm)]).run Tryz.prog w=.ok (.int .i64 (d.files.length:Int)) w:=fun ty=>by rw[h.map.len 120 _ Tryz.underlying120 ty];simp
 have hu0:=ho.used0;have hu1:=ho.max;have hn0:=ho.num;have Tm:=qS (d.jb s m=(decide (4194304<d.used+m)||((aA d.files s).isNone&&decide (4096≤d.files.length)))) (rfl);clear h ho;have hl:=HL.o;by_cases h1:4194304<d.used+m;·have HV:=qS (d.jb s m=true) (by rw[Tm.o,decide_eq_true h1];rfl);generalize(aA d.files s).isSome=there at hl;generalize jB d B s=pp at hl;go_enter Tryz.func120,Tryz.ntmps120;go_wp2;go_ret;exact⟨aa HV.o.symm,rfl⟩
 ·cases hg:aA d.files s with
   |some f=>have HV:=qS (d.jb s m=false) (by rw[Tm.o,decide_eq_false h1,hg];rfl);rw[hg]at hl;generalize jB d B s=pp at hl;clear hg;go_enter Tryz.func120,Tryz.ntmps120;go_wp2;go_ret;exact⟨aa HV.o.symm,rfl⟩
   |none=>
    have HV:=qS (d.jb s m=decide ((4096:Int)≤d.files.length)) (by rw[Tm.o,decide_eq_false h1,hg];simp;omega);rw[hg]at hl;generalize jB d B s=pp at hl;clear hg;by_cases h2:(4096:Int)≤d.files.length;·rw[decide_eq_true h2]at HV;go_enter Tryz.func120,Tryz.ntmps120;go_wp2;go_ret;exact⟨aa HV.o.symm,rfl⟩
    ·rw[decide_eq_false h2]at HV;go_enter Tryz.func120,Tryz.ntmps120;go_wp2;go_ret;exact⟨aa HV.o.symm,rfl⟩
end Go.Proofs.YtladegonienapaaGreatDoor
