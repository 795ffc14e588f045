/-
  Layer 4: a disk in memory, its blocks hidden; found, full.
-/
import Derived.Test.YtajihpcdplpcdaaGreatDoorTRowK
import Derived.Test.YtajihpcdplpcdaaGreatDoorTWhole
import Derived.Maps.OwnSet
set_option maxRecDepth 100000
set_option maxHeartbeats 16000000
namespace Go.Proofs.YtajihpcdplpcdaaGreatDoor
open Go.RowKit Go.Maps Go.Sort
abbrev dkObj(bm:Nat)(d:Dk):Obj:=.cells #[.map (some bm),.int .i64 d.used,.bool d.lit,.int .i64 d.fuse,.bool d.down] 69
abbrev flObj(v:Value)(f:Fl):Obj:=.cells #[v,.int .i64 f.lasts,.bool f.stays] 141
structure DkAt(w:World)(G:Nat→Prop)(bd bm:Nat)(d:Dk)(B:List UInt8→Nat)(V:List UInt8→Value):Prop where
 blk:w.heap[bd]?=some (dkObj bm d)
 map:MapS w bm (d.files.map fun p=>(p.1,.pointer (some ⟨B p.1,0,none⟩)))
 fl: ∀p∈d.files,w.heap[B p.1]?=some (flObj (V p.1) p.2)
 own: ∀p∈d.files,OwnB w 0 (V p.1) p.2.data
 apB: ∀p∈d.files,∀q∈d.files,p.1≠q.1→B p.1≠B q.1
 apV: ∀p∈d.files,∀q∈d.files,p.1≠q.1→ ∀b,(V p.1).ownBlock=some b→(V q.1).ownBlock≠some b
 gd:G bd
 gm:G bm
 gB: ∀p∈d.files,G (B p.1)
 gV: ∀p∈d.files,∀b,(V p.1).ownBlock=some b→G b
 lt: ∀b,G b→b<w.heap.size
 up:RowUp d.files
 nm:bd≠bm
 nB: ∀p∈d.files,B p.1≠bd∧B p.1≠bm
 nV: ∀p∈d.files,∀b,(V p.1).ownBlock=some b→b≠bd∧b≠bm∧ ∀q∈d.files,b≠B q.1
section
variable{w w':World}{G:Nat→Prop}{bd bm:Nat}{d:Dk}{B:List UInt8→Nat}{V:List UInt8→Value}
theorem OwnB.keepB{w w':World}{base:Nat}{v:Value}{l:List UInt8}(h:OwnB w base v l)(hb: ∀b,v.ownBlock=some b→w'.heap[b]?=w.heap[b]?):OwnB w' base v l:=by
 refine⟨h.1,?_⟩;rcases h.2 with⟨e,hl⟩|⟨g,cap,cur,e,hb',hg,hr⟩;·exact .inl ⟨e,hl⟩
 ·exact .inr ⟨g,cap,cur,e,hb',(hb g (by rw[e];rfl)).trans hg,hr⟩
theorem DkAt.keep(h:DkAt w G bd bm d B V)(hsz:w.heap.size≤w'.heap.size)(hk: ∀b,G b→w'.heap[b]?=w.heap[b]?):DkAt w' G bd bm d B V:=⟨(hk _ h.gd).trans h.blk,h.map.block (hk _ h.gm),fun p hp=>(hk _ (h.gB p hp)).trans (h.fl p hp),fun p hp=>(h.own p hp).keepB fun b hb=>hk b (h.gV p hp b hb),h.apB,h.apV,h.gd,h.gm,h.gB,h.gV,fun b hb=>Nat.lt_of_lt_of_le (h.lt b hb) hsz,h.up,h.nm,h.nB,h.nV⟩
theorem DkAt.up_(h:DkAt w G bd bm d B V)(hb:Below w.heap.size w w'):DkAt w' G bd bm d B V:=h.keep hb.size fun b hg=>hb.block b (h.lt b hg)
theorem DkAt.cells(h:DkAt w G bd bm d B V):w.cell? ⟨bd,0,none⟩=some (.map (some bm))∧w.cell? ⟨bd,1,none⟩=some (.int .i64 d.used)∧w.cell? ⟨bd,2,none⟩=some (.bool d.lit)∧w.cell? ⟨bd,3,none⟩=some (.int .i64 d.fuse)∧w.cell? ⟨bd,4,none⟩=some (.bool d.down):=by have key: ∀o,w.cell? ⟨bd,o,none⟩=_:=fun o=>cell_of_row w bd o _ _ (0,0) h.blk;exact⟨(key 0).trans rfl,(key 1).trans rfl,(key 2).trans rfl,(key 3).trans rfl,(key 4).trans rfl⟩
theorem DkAt.frozen(h:DkAt w G bd bm d B V)(o:Nat):w.frozen? ⟨bd,o,none⟩=false:=frozen_of_row w bd o _ _ h.blk
end
theorem dkdown_any(w:World)(G:Nat→Prop)(bd bm:Nat)(d:Dk)(B:List UInt8→Nat)(V:List UInt8→Value)(h:DkAt w G bd bm d B V):Calls Tryz.prog 34 #[.pointer (some ⟨bd,0,none⟩)] w fun e w'=>e=.returned (.bool d.down)∧w=w':=by obtain⟨c0,c1,c2,c3,c4⟩:=h.cells;go_enter Tryz.func34,Tryz.ntmps34;go_wp2;go_ret;exact⟨rfl,rfl⟩
theorem dkasked_any(w:World)(G:Nat→Prop)(bd bm:Nat)(d:Dk)(B:List UInt8→Nat)(V:List UInt8→Value)(h:DkAt w G bd bm d B V)(s:List UInt8):Calls Tryz.prog 70 #[.pointer (some ⟨bd,0,none⟩),.string ⟨s.toArray⟩] w fun e w'=>e=.returned (.int .i64 (d.asked s))∧w=w':=by
 obtain⟨c0,c1,c2,c3,c4⟩:=h.cells;have HA:=qH (show d.asked s=if d.down then 8 else if s.length<1∨64<s.length then 1 else 0 from rfl);cases hd:d.down
 ·rw[hd]at c4;by_cases h1:s.length<1;·have HV:=qH (show d.asked s=1 by rw[HA.out,hd,if_neg (by simp),if_pos (.inl h1)]);have hs:s=[]:=List.eq_nil_of_length_eq_zero (by omega);subst hs;clear h1 hd;go_enter Tryz.func70,Tryz.ntmps70;go_wp2;go_ret;exact⟨ret_int HV.out.symm,rfl⟩
  ·by_cases h2:64<s.length
   ·have HV:=qH (show d.asked s=1 by rw[HA.out,hd,if_neg (by simp),if_pos (.inr h2)]);have t1: ¬(s.length:Int)<1:=by omega
    have t2:(64:Int)<s.length:=by omega
    clear hd;go_enter Tryz.func70,Tryz.ntmps70;go_wp2;go_ret;exact⟨ret_int HV.out.symm,rfl⟩
   ·have HV:=qH (show d.asked s=0 by rw[HA.out,hd,if_neg (by simp),if_neg (by omega)]);have t1: ¬(s.length:Int)<1:=by omega
    have t2: ¬(64:Int)<s.length:=by omega
    clear hd;go_enter Tryz.func70,Tryz.ntmps70;go_wp2;go_ret;exact⟨ret_int HV.out.symm,rfl⟩
 ·rw[hd]at c4;have HV:=qH (show d.asked s=8 by rw[HA.out,hd];rfl);clear hd;go_enter Tryz.func70,Tryz.ntmps70;go_wp2;go_ret;exact⟨ret_int HV.out.symm,rfl⟩
section
variable{w w':World}{G:Nat→Prop}{bd bm:Nat}{d:Dk}{B:List UInt8→Nat}{V:List UInt8→Value}
theorem DkAt.head(h:DkAt w G bd bm d B V)(d':Dk)(hf:d'.files=d.files)(hb:w'.heap[bd]?=some (dkObj bm d'))(hs:w'.heap.size=w.heap.size)(hk: ∀b,b≠bd→w'.heap[b]?=w.heap[b]?):DkAt w' G bd bm d' B V:=by
 refine⟨hb,?_,?_,?_,?_,?_,h.gd,h.gm,?_,?_,fun b hb=>hs▸h.lt b hb,hf▸h.up,h.nm,hf▸h.nB,hf▸h.nV⟩;·rw[hf];exact h.map.block (hk _ (Ne.symm h.nm))
 ·rw[hf];exact fun p hp=>(hk _ (h.nB p hp).1).trans (h.fl p hp)
 ·rw[hf];exact fun p hp=>(h.own p hp).keepB fun b hb=>hk b (h.nV p hp b hb).1
 ·rw[hf];exact h.apB
 ·rw[hf];exact h.apV
 ·rw[hf];exact h.gB
 ·rw[hf];exact h.gV
end
def StepPost(w:World)(G:Nat→Prop)(bd bm:Nat)(d:Dk)(B:List UInt8→Nat)(V:List UInt8→Value)(e:Ending)(w':World):Prop:=e=.returned (.bool d.stepB)∧DkAt w' G bd bm d.step B V∧Keep (·=bd) w w'∧w'.heap.size=w.heap.size
theorem dkstep_any(w:World)(G:Nat→Prop)(bd bm:Nat)(d:Dk)(B:List UInt8→Nat)(V:List UInt8→Value)(h:DkAt w G bd bm d B V)(hf:0≤d.fuse∧d.fuse≤1000):Calls Tryz.prog 72 #[.pointer (some ⟨bd,0,none⟩)] w (StepPost w G bd bm d B V):=by
 obtain⟨c0,c1,c2,c3,c4⟩:=h.cells;have f3:=h.frozen 3;have f4:=h.frozen 4;have HH:=qH h;have HB:=qH h.blk;clear h;cases hl:d.lit;·have HR:=qH (show StepPost w G bd bm d B V (.returned (.bool true)) w by have:=Dk.step_dark hl;refine⟨by rw[this.2],?_,Keep.refl _ _,rfl⟩;rw[this.1];exact HH.out);rw[hl]at c2;go_enter Tryz.func72,Tryz.ntmps72;go_wp2;go_ret;exact HR.out
 ·rw[hl]at c2;by_cases h0:d.fuse=0
  ·have HR:=qH (show StepPost w G bd bm d B V (.returned (.bool false)) (w.setCell ⟨bd,4,none⟩ (.bool true))by
    refine⟨by simp[Dk.stepB,hl,h0],?_,(Keep.refl (fun b=>b=bd) w).setCell (p:=⟨bd,4,none⟩) (fun _=>rfl) _,by simp[World.setCell]⟩;refine HH.out.head _ ?_ ?_ (by simp[World.setCell]) (fun b hb=>Below.heap_setCell _ _ _ _ hb);·simp[Dk.step,hl,h0]
    ·rw[heap_set_row HB.out];simp[Dk.step,hl,h0]);rw[h0]at c3;clear hl h0;go_enter Tryz.func72,Tryz.ntmps72;go_wp2;go_ret;exact HR.out
  ·have HR:=qH (show StepPost w G bd bm d B V (.returned (.bool true)) (w.setCell ⟨bd,3,none⟩ (.int .i64 (d.fuse-1)))by
    refine⟨by simp[Dk.stepB,hl,h0],?_,(Keep.refl (fun b=>b=bd) w).setCell (p:=⟨bd,3,none⟩) (fun _=>rfl) _,by simp[World.setCell]⟩;refine HH.out.head _ ?_ ?_ (by simp[World.setCell]) (fun b hb=>Below.heap_setCell _ _ _ _ hb);·simp[Dk.step,hl,h0]
    ·rw[heap_set_row HB.out];simp[Dk.step,hl,h0]);clear hl;go_enter Tryz.func72,Tryz.ntmps72;go_wp2;go_ret;exact HR.out
def total:Row Fl→Int|[]=>0|p::m=>p.2.data.length+total m
theorem total_nonneg: ∀m:Row Fl,0≤total m|[]=>Int.le_refl _|p::m=>by unfold total;have:=total_nonneg m;omega
theorem total_ins(x:List UInt8×Fl): ∀m:Row Fl,total (insB x m)=x.2.data.length+total m
 |[]=>rfl
 |y::r=>by
  unfold insB;split;·rfl
  ·simp only[total,total_ins x r];omega
theorem total_filter: ∀{m:Row Fl},RowUp m→ ∀k,total (m.filter fun p=>!(p.1==k))+((getB m k).getD Fl.none).data.length=total m
 |[],_,k=>by simp[total,getB,Fl.none]
 |y::r,h,k=>by
  obtain⟨h1,h2⟩:=List.pairwise_cons.1 h;have ih:=total_filter h2 k;by_cases e:y.1=k
  ·have hn: ∀p∈r,p.1≠k:=fun p hp e'=>by have:=h1 p hp;rw[e,e',bb_irrefl]at this;cases this
   have hf:r.filter (fun p=>!(p.1==k))=r:=List.filter_eq_self.2 fun p hp=>by simp[hn p hp]
   have hg:getB (y::r) k=some y.2:=by unfold getB;simp[e]
   rw[hg,List.filter_cons,if_neg (by simp[e]),hf];simp only[total,Option.getD_some];omega
  ·have hg:getB (y::r) k=getB r k:=by unfold getB;simp[e]
   rw[hg,List.filter_cons,if_pos (by simp[e])];simp only[total];omega
theorem total_put{m:Row Fl}(h:RowUp m)(k:List UInt8)(f:Fl):total (putB k f m)=total m-((getB m k).getD Fl.none).data.length+f.data.length:=by unfold putB;rw[total_ins];have:=total_filter h k;show(f.data.length:Int)+_=_;omega
theorem total_mem: ∀{m:Row Fl}{p:List UInt8×Fl},p∈m→(p.2.data.length:Int)≤total m
 |y::r,p,h=>by
  unfold total;rcases List.mem_cons.1 h with rfl|h;·have:=total_nonneg r;omega
  ·have:=total_mem h;omega
structure Dk.Ok(d:Dk):Prop where
 up:RowUp d.files
 used:d.used=total d.files
 max:d.used≤4194304
 fuse0:0≤d.fuse
 fuse1:d.fuse≤1000
 num:d.files.length≤4096
 las: ∀p∈d.files,0≤p.2.lasts∧p.2.lasts≤p.2.data.length
theorem Dk.ok_new:Dk.new.Ok:=⟨by simp[Dk.new,RowUp],rfl,by simp[Dk.new],by simp[Dk.new],by simp[Dk.new],by simp[Dk.new],by simp[Dk.new]⟩
theorem Dk.Ok.used0{d:Dk}(h:d.Ok):0≤d.used:=by rw[h.used];exact total_nonneg _
theorem Dk.Ok.file_las{d:Dk}(h:d.Ok)(s:List UInt8):0≤(d.file s).lasts∧(d.file s).lasts≤(d.file s).data.length:=by unfold Dk.file;cases hg:getB d.files s with|none=>simp[Fl.none]|some f=>exact h.las _ (getB_mem hg)
theorem Dk.Ok.file_len{d:Dk}(h:d.Ok)(s:List UInt8):((d.file s).data.length:Int)≤d.used:=by unfold Dk.file;cases hg:getB d.files s with|none=>simpa[Fl.none]using h.used0|some f=>rw[h.used];exact total_mem (getB_mem hg)
theorem Dk.Ok.step{d:Dk}(h:d.Ok):d.step.Ok:=by
 unfold Dk.step;split
 ·split;·exact⟨h.up,h.used,h.max,h.fuse0,h.fuse1,h.num,h.las⟩
  ·exact⟨h.up,h.used,h.max,by have:=h.fuse0;show 0≤d.fuse-1;omega,by have:=h.fuse1;show d.fuse-1≤1000;omega,h.num,h.las⟩
 ·exact h
theorem Dk.step_files(d:Dk):d.step.files=d.files∧d.step.used=d.used:=by
 unfold Dk.step;split;·split<;>exact⟨rfl,rfl⟩
 ·exact⟨rfl,rfl⟩
theorem Dk.Ok.put{d:Dk}(h:d.Ok)(s:List UInt8)(f:Fl)(u:Int)(hu:u=d.used-(d.file s).data.length+f.data.length)(hm:u≤4194304)(hr:(getB d.files s).isSome=true∨d.files.length<4096)(hl:0≤f.lasts∧f.lasts≤f.data.length):({d.put s f with used:=u}:Dk).Ok:=by
 refine⟨putB_rising h.up _ _,?_,hm,h.fuse0,h.fuse1,?_,fun p hp=>?_⟩;·show u=total (putB s f d.files);rw[hu,total_put h.up,←h.used];rfl
 ·show(putB s f d.files).length≤4096;rcases hr with hr|hr;·exact Nat.le_trans (putB_length_here f hr) h.num
  ·have:=putB_length_le d.files s f;omega
 ·rcases putB_mem.1 hp with rfl|⟨hp,_⟩;·exact hl
  ·exact h.las p hp
theorem Dk.full_no{d:Dk}{s:List UInt8}{m:Int}(h:d.fullB s m=false):d.used+m≤4194304∧((getB d.files s).isSome=true∨d.files.length<4096):=by
 unfold Dk.fullB at h;rw[Bool.or_eq_false_iff,decide_eq_false_iff_not,Bool.and_eq_false_iff]at h;refine⟨by omega,?_⟩;rcases h.2 with h|h;·left;cases hg:getB d.files s<;>simp_all
 ·right;rw[decide_eq_false_iff_not]at h;omega
theorem Dk.found_zero{d:Dk}{s:List UInt8}(h:d.found s=0):d.asked s=0∧(getB d.files s).isSome=true:=by
 unfold Dk.found at h;by_cases h0:d.asked s=0;·refine⟨h0,?_⟩;rw[if_neg (by simp[h0])]at h;cases hg:getB d.files s with|none=>rw[hg]at h;simp at h|some f=>rfl
 ·rw[if_pos h0]at h;exact absurd h h0
theorem Dk.Ok.sync{d:Dk}(h:d.Ok)(s:List UInt8):(d.sync s).Ok:=by
 unfold Dk.sync;split;·exact h
 ·next hf=>
   have hf:=Dk.found_zero (Decidable.not_not.1 hf);split;·have hs:=h.step;have:=hs.put s {d.file s with lasts:=(d.file s).data.length,stays:=true} d.step.used (by show d.step.used=d.step.used-(d.step.file s).data.length+((d.file s).data.length:Int);unfold Dk.file;rw[d.step_files.1];omega) hs.max (.inl (by rw[d.step_files.1];exact hf.2)) ⟨by simp,by simp⟩;exact this
   ·exact h.step
theorem MapS.look2{w:World}{b:Nat}{m:Row Value}(h:MapS w b m)(k:List UInt8)(hk:k.length≤maxLen)(t e:TypeId)(ht:Tryz.prog.underlying t=some (.map 9 e))(z:Value)(hz:(zeroValue e).run Tryz.prog w=.ok z w):(Instr.lookup t (.map (some b)) (.string ⟨k.toArray⟩) true).run Tryz.prog w=.ok (.tuple #[(getB m k).getD z,.bool (getB m k).isSome]) w:=by obtain⟨v,ps,hr,hv⟩:=World.ownsMap.look_ok h keyS ht hz (zd:=.held z) (zp:=[]) rfl (key_str k hk);rw[mapD_at]at hv;rw[hr,mapD_has];simp only[raw,Option.some.injEq,Prod.mk.injEq,DataW.held.injEq]at hv;rw[hv.1]
theorem MapS.len{w:World}{b:Nat}{m:Row Value}(h:MapS w b m)(t e:TypeId)(ht:Tryz.prog.underlying t=some (.map 9 e))(ty:TypeId):(Builtin.len_ #[t] ty #[.map (some b)]).run Tryz.prog w=.ok (.int .i64 (m.length:Int)) w:=by have:=World.ownsMap.len (show w.ownsMap Tryz.prog 9 raw b _ _ from h) ht ty;rw[this];simp[mapD,Maps.size]
def DkIn(w:World)(G:Nat→Prop)(bd:Nat)(d:Dk):Prop:=d.Ok∧ ∃bm B V,DkAt w G bd bm d B V
def DkD(w:World)(G:Nat→Prop)(bd:Nat)(d':Dk)(w':World):Prop:= ∃G',DkIn w' G' bd d'∧(∀b,G' b→G b∨w.heap.size≤b)∧Keep G w w'
section
variable{w w':World}{G:Nat→Prop}{bd bm:Nat}{d:Dk}{B:List UInt8→Nat}{V:List UInt8→Value}
theorem DkIn.keep(h:DkIn w G bd d)(hsz:w.heap.size≤w'.heap.size)(hk: ∀b,G b→w'.heap[b]?=w.heap[b]?):DkIn w' G bd d:=by obtain⟨ho,bm,B,V,h⟩:=h;exact⟨ho,bm,B,V,h.keep hsz hk⟩
theorem DkIn.up(h:DkIn w G bd d)(hb:Below w.heap.size w w'):DkIn w' G bd d:=by obtain⟨ho,bm,B,V,h⟩:=h;exact⟨ho,bm,B,V,h.up_ hb⟩
theorem DkIn.lt(h:DkIn w G bd d): ∀b,G b→b<w.heap.size:=by obtain⟨ho,bm,B,V,h⟩:=h;exact h.lt
theorem DkD.refl(h:DkIn w G bd d):DkD w G bd d w:=⟨G,h,fun _ h=>.inl h,Keep.refl _ _⟩
theorem Dk.rowv(d:Dk)(B:List UInt8→Nat)(s:List UInt8):getB (d.files.map fun p=>(p.1,(Value.pointer (some ⟨B p.1,0,none⟩)))) s=(getB d.files s).map fun _=>.pointer (some ⟨B s,0,none⟩):=by unfold getB;rw[List.find?_map];cases hf:d.files.find? ((fun p:List UInt8×Value=>p.1==s)∘fun p=>(p.1,(Value.pointer (some ⟨B p.1,0,none⟩))))with|none=>have:d.files.find? (fun p=>p.1==s)=none:=hf;rw[this];rfl|some p=>have h2:d.files.find? (fun p=>p.1==s)=some p:=hf;have:=List.find?_some h2;simp at this;rw[h2];simp[this]
def ptrOf(d:Dk)(B:List UInt8→Nat)(s:List UInt8):Value:=if(getB d.files s).isSome then .pointer (some ⟨B s,0,none⟩)else .pointer none
theorem DkAt.look(h:DkAt w G bd bm d B V)(s:List UInt8)(hs:s.length≤1000000):(Instr.lookup 67 (.map (some bm)) (.string ⟨s.toArray⟩) true).run Tryz.prog w=.ok (.tuple #[ptrOf d B s,.bool (getB d.files s).isSome]) w:=by have:=h.map.look2 s (by unfold maxLen;omega) 67 137 Tryz.underlying67 (.pointer none) (by kernel_rfl);rw[this,Dk.rowv];unfold ptrOf;cases getB d.files s<;>rfl
end
theorem dkfound_any(w:World)(G:Nat→Prop)(bd bm:Nat)(d:Dk)(B:List UInt8→Nat)(V:List UInt8→Value)(h:DkAt w G bd bm d B V)(s:List UInt8)(hs:s.length≤1000000):Calls Tryz.prog 67 #[.pointer (some ⟨bd,0,none⟩),.string ⟨s.toArray⟩] w fun e w'=>e=.returned (.tuple #[if d.found s=0 then .pointer (some ⟨B s,0,none⟩)else .pointer none,.int .i64 (d.found s)])∧w=w':=by
 obtain⟨c0,c1,c2,c3,c4⟩:=h.cells;have HL:=qH (h.look s hs);have HA:=qH (dkasked_any w G bd bm d B V h s);clear h;by_cases h0:d.asked s=0
 ·rw[h0]at HA;cases hg:getB d.files s with
   |none=>
    have hf:d.found s=6:=by unfold Dk.found;rw[if_neg (by simp[h0]),hg];rfl
    have hl:=HL.out;rw[show ptrOf d B s=.pointer none by unfold ptrOf;rw[hg];rfl,hg]at hl;rw[hf];go_enter Tryz.func67,Tryz.ntmps67;go_wp2_with fail;refine HA.out.mono ?_;rintro e w1⟨rfl,rfl⟩;go_wp2;go_ret2;exact⟨rfl,rfl⟩
   |some f=>
    have hf:d.found s=0:=by unfold Dk.found;rw[if_neg (by simp[h0]),hg];rfl
    have hl:=HL.out;rw[show ptrOf d B s=.pointer (some ⟨B s,0,none⟩)by unfold ptrOf;rw[hg];rfl,hg]at hl;rw[hf];go_enter Tryz.func67,Tryz.ntmps67;go_wp2_with fail;refine HA.out.mono ?_;rintro e w1⟨rfl,rfl⟩;go_wp2;go_ret2;exact⟨rfl,rfl⟩
 ·have hf:d.found s=d.asked s:=by unfold Dk.found;rw[if_pos h0]
  have HF:=qH hf;rw[hf,if_neg h0];go_enter Tryz.func67,Tryz.ntmps67;go_wp2_with fail;refine HA.out.mono ?_;rintro e w1⟨rfl,rfl⟩;go_wp2;go_ret2;exact⟨rfl,rfl⟩
theorem dkfull_any(w:World)(G:Nat→Prop)(bd bm:Nat)(d:Dk)(B:List UInt8→Nat)(V:List UInt8→Value)(h:DkAt w G bd bm d B V)(ho:d.Ok)(s:List UInt8)(hs:s.length≤1000000)(m:Int)(hm: -1000000000≤m∧m≤1000000000):Calls Tryz.prog 71 #[.pointer (some ⟨bd,0,none⟩),.string ⟨s.toArray⟩,.int .i64 m] w fun e w'=>e=.returned (.bool (d.fullB s m))∧w=w':=by
 obtain⟨c0,c1,c2,c3,c4⟩:=h.cells;have HL:=qH (h.look s hs);have hlen: ∀ty,(Builtin.len_ #[67] ty #[.map (some bm)]).run Tryz.prog w=.ok (.int .i64 (d.files.length:Int)) w:=fun ty=>by rw[h.map.len 67 _ Tryz.underlying67 ty];simp
 have hu0:=ho.used0;have hu1:=ho.max;have hn0:=ho.num;have HFB:=qH (show d.fullB s m=(decide (4194304<d.used+m)||((getB d.files s).isNone&&decide (4096≤d.files.length)))from rfl);clear h ho;have hl:=HL.out;by_cases h1:4194304<d.used+m;·have HV:=qH (show d.fullB s m=true by rw[HFB.out,decide_eq_true h1];rfl);generalize(getB d.files s).isSome=there at hl;generalize ptrOf d B s=pp at hl;go_enter Tryz.func71,Tryz.ntmps71;go_wp2;go_ret;exact⟨ret_bool HV.out.symm,rfl⟩
 ·cases hg:getB d.files s with
   |some f=>have HV:=qH (show d.fullB s m=false by rw[HFB.out,decide_eq_false h1,hg];rfl);rw[hg]at hl;generalize ptrOf d B s=pp at hl;clear hg;go_enter Tryz.func71,Tryz.ntmps71;go_wp2;go_ret;exact⟨ret_bool HV.out.symm,rfl⟩
   |none=>
    have HV:=qH (show d.fullB s m=decide ((4096:Int)≤d.files.length)by rw[HFB.out,decide_eq_false h1,hg];simp;omega);rw[hg]at hl;generalize ptrOf d B s=pp at hl;clear hg;by_cases h2:(4096:Int)≤d.files.length;·rw[decide_eq_true h2]at HV;go_enter Tryz.func71,Tryz.ntmps71;go_wp2;go_ret;exact⟨ret_bool HV.out.symm,rfl⟩
    ·rw[decide_eq_false h2]at HV;go_enter Tryz.func71,Tryz.ntmps71;go_wp2;go_ret;exact⟨ret_bool HV.out.symm,rfl⟩
end Go.Proofs.YtajihpcdplpcdaaGreatDoor
