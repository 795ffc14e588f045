/-
  Layer 4: Replace.
-/
import Derived.Test.YtladegonienapaaGreatDoorUDInv
set_option maxRecDepth 100000
set_option maxHeartbeats 16000000
namespace Go.Proofs.YtladegonienapaaGreatDoor
open Go.RowKit Go.Maps Go.Sort
abbrev kX(bm:Nat)(d:Dk):Obj:=.cells #[.map (some bm),.int .i64 d.used,.bool d.lit,.int .i64 d.rM,.bool d.down] 122
abbrev xK(v:Value)(f:Fl):Obj:=.cells #[v,.int .i64 f.lasts,.bool f.stays] 177
structure iy(w:World)(G:Nat→Prop)(bd bm:Nat)(d:Dk)(B:List UInt8→Nat)(V:List UInt8→Value):Prop where
 blk:w.heap[bd]?=some (kX bm d)
 map:dN w bm (d.files.map fun p=>(p.1,.pointer (some ⟨B p.1,0,none⟩)))
 fl: ∀p∈d.files,w.heap[B p.1]?=some (xK (V p.1) p.2)
 own: ∀p∈d.files,aR w 0 (V p.1) p.2.data
 WC: ∀p∈d.files,∀q∈d.files,p.1≠q.1→B p.1≠B q.1
 WB: ∀p∈d.files,∀q∈d.files,p.1≠q.1→ ∀b,(V p.1).ownBlock=some b→(V q.1).ownBlock≠some b
 gd:G bd
 gm:G bm
 gB: ∀p∈d.files,G (B p.1)
 gV: ∀p∈d.files,∀b,(V p.1).ownBlock=some b→G b
 lt: ∀b,G b→b<w.heap.size
 up:bP d.files
 nm:bd≠bm
 nB: ∀p∈d.files,B p.1≠bd∧B p.1≠bm
 nV: ∀p∈d.files,∀b,(V p.1).ownBlock=some b→b≠bd∧b≠bm∧ ∀q∈d.files,b≠B q.1
section
variable{w w':World}{G:Nat→Prop}{bd bm:Nat}{d:Dk}{B:List UInt8→Nat}{V:List UInt8→Value}
theorem aR.aN{w w':World}{base:Nat}{v:Value}{l:List UInt8}(h:aR w base v l)(hb: ∀b,v.ownBlock=some b→w'.heap[b]?=w.heap[b]?):aR w' base v l:=by
 refine⟨h.1,?_⟩;rcases h.2 with⟨e,hl⟩|⟨g,cap,cur,e,hb',hg,hr⟩;·exact .inl ⟨e,hl⟩
 ·exact .inr ⟨g,cap,cur,e,hb',(hb g (by rw[e];rfl)).trans hg,hr⟩
theorem iy.keep(h:iy w G bd bm d B V)(hsz:w.heap.size≤w'.heap.size)(hk: ∀b,G b→w'.heap[b]?=w.heap[b]?):iy w' G bd bm d B V:=⟨(hk _ h.gd).trans h.blk,h.map.block (hk _ h.gm),fun p hp=>(hk _ (h.gB p hp)).trans (h.fl p hp),fun p hp=>(h.own p hp).aN fun b hb=>hk b (h.gV p hp b hb),h.WC,h.WB,h.gd,h.gm,h.gB,h.gV,fun b hb=>Nat.lt_of_lt_of_le (h.lt b hb) hsz,h.up,h.nm,h.nB,h.nV⟩
theorem iy.up_(h:iy w G bd bm d B V)(hb:Below w.heap.size w w'):iy w' G bd bm d B V:=h.keep hb.size fun b hg=>hb.block b (h.lt b hg)
theorem iy.cells(h:iy w G bd bm d B V):w.cell? ⟨bd,0,none⟩=some (.map (some bm))∧w.cell? ⟨bd,1,none⟩=some (.int .i64 d.used)∧w.cell? ⟨bd,2,none⟩=some (.bool d.lit)∧w.cell? ⟨bd,3,none⟩=some (.int .i64 d.rM)∧w.cell? ⟨bd,4,none⟩=some (.bool d.down):=by have key: ∀o,w.cell? ⟨bd,o,none⟩=_:=fun o=>cell_of_row w bd o _ _ (0,0) h.blk;exact⟨(key 0).trans rfl,(key 1).trans rfl,(key 2).trans rfl,(key 3).trans rfl,(key 4).trans rfl⟩
theorem iy.frozen(h:iy w G bd bm d B V)(o:Nat):w.frozen? ⟨bd,o,none⟩=false:=frozen_of_row w bd o _ _ h.blk
end
theorem Gp(w:World)(G:Nat→Prop)(bd bm:Nat)(d:Dk)(B:List UInt8→Nat)(V:List UInt8→Value)(h:iy w G bd bm d B V):Calls Tryz.prog 67 #[.pointer (some ⟨bd,0,none⟩)] w fun e w'=>e=.returned (.bool d.down)∧w=w':=by obtain⟨c0,c1,c2,c3,c4⟩:=h.cells;go_enter Tryz.func67,Tryz.ntmps67;go_wp2;go_ret;exact⟨rfl,rfl⟩
theorem jr(w:World)(G:Nat→Prop)(bd bm:Nat)(d:Dk)(B:List UInt8→Nat)(V:List UInt8→Value)(h:iy w G bd bm d B V)(s:List UInt8):Calls Tryz.prog 119 #[.pointer (some ⟨bd,0,none⟩),.string ⟨s.toArray⟩] w fun e w'=>e=.returned (.int .i64 (d.asked s))∧w=w':=by
 obtain⟨c0,c1,c2,c3,c4⟩:=h.cells;have HA:=qS (d.asked s=if d.down then 8 else if s.length<1∨64<s.length then 1 else 0) (rfl);cases hd:d.down
 ·rw[hd]at c4;by_cases h1:s.length<1;·have HV:=qS (d.asked s=1) (by rw[HA.o,hd,if_neg (by simp),if_pos (.inl h1)]);have hs:s=[]:=List.eq_nil_of_length_eq_zero (by omega);subst hs;clear h1 hd;go_enter Tryz.func119,Tryz.ntmps119;go_wp2;go_ret;exact⟨aY HV.o.symm,rfl⟩
  ·by_cases h2:64<s.length
   ·have HV:=qS (d.asked s=1) (by rw[HA.o,hd,if_neg (by simp),if_pos (.inr h2)]);have t1: ¬(s.length:Int)<1:=by omega
    have t2:(64:Int)<s.length:=by omega
    clear hd;go_enter Tryz.func119,Tryz.ntmps119;go_wp2;go_ret;exact⟨aY HV.o.symm,rfl⟩
   ·have HV:=qS (d.asked s=0) (by rw[HA.o,hd,if_neg (by simp),if_neg (by omega)]);have t1: ¬(s.length:Int)<1:=by omega
    have t2: ¬(64:Int)<s.length:=by omega
    clear hd;go_enter Tryz.func119,Tryz.ntmps119;go_wp2;go_ret;exact⟨aY HV.o.symm,rfl⟩
 ·rw[hd]at c4;have HV:=qS (d.asked s=8) (by rw[HA.o,hd];rfl);clear hd;go_enter Tryz.func119,Tryz.ntmps119;go_wp2;go_ret;exact⟨aY HV.o.symm,rfl⟩
section
variable{w w':World}{G:Nat→Prop}{bd bm:Nat}{d:Dk}{B:List UInt8→Nat}{V:List UInt8→Value}
theorem iy.head(h:iy w G bd bm d B V)(d':Dk)(hf:d'.files=d.files)(hb:w'.heap[bd]?=some (kX bm d'))(hs:w'.heap.size=w.heap.size)(hk: ∀b,b≠bd→w'.heap[b]?=w.heap[b]?):iy w' G bd bm d' B V:=by
 refine⟨hb,?_,?_,?_,?_,?_,h.gd,h.gm,?_,?_,fun b hb=>hs▸h.lt b hb,hf▸h.up,h.nm,hf▸h.nB,hf▸h.nV⟩;·rw[hf];exact h.map.block (hk _ (Ne.symm h.nm))
 ·rw[hf];exact fun p hp=>(hk _ (h.nB p hp).1).trans (h.fl p hp)
 ·rw[hf];exact fun p hp=>(h.own p hp).aN fun b hb=>hk b (h.nV p hp b hb).1
 ·rw[hf];exact h.WC
 ·rw[hf];exact h.WB
 ·rw[hf];exact h.gB
 ·rw[hf];exact h.gV
end
def rX(w:World)(G:Nat→Prop)(bd bm:Nat)(d:Dk)(B:List UInt8→Nat)(V:List UInt8→Value)(e:Ending)(w':World):Prop:=e=.returned (.bool d.iT)∧iy w' G bd bm d.step B V∧ah (·=bd) w w'∧w'.heap.size=w.heap.size
theorem qK(w:World)(G:Nat→Prop)(bd bm:Nat)(d:Dk)(B:List UInt8→Nat)(V:List UInt8→Value)(h:iy w G bd bm d B V)(hf:0≤d.rM∧d.rM≤1000):Calls Tryz.prog 121 #[.pointer (some ⟨bd,0,none⟩)] w (rX w G bd bm d B V):=by
 obtain⟨c0,c1,c2,c3,c4⟩:=h.cells;have f3:=h.frozen 3;have f4:=h.frozen 4;have HH:=qH h;have HB:=qH h.blk;clear h;cases hl:d.lit;·have HR:=qS (rX w G bd bm d B V (.returned (.bool true)) w) (by have:=Dk.jM hl;refine⟨by rw[this.2],?_,ah.refl _ _,rfl⟩;rw[this.1];exact HH.o);rw[hl]at c2;go_enter Tryz.func121,Tryz.ntmps121;go_wp2;go_ret;exact HR.o
 ·rw[hl]at c2;by_cases h0:d.rM=0
  ·have HR:=qS (rX w G bd bm d B V (.returned (.bool false)) (w.setCell ⟨bd,4,none⟩ (.bool true))) (by
    refine⟨by simp[Dk.iT,hl,h0],?_,(ah.refl (fun b=>b=bd) w).setCell (p:=⟨bd,4,none⟩) (fun _=>rfl) _,by simp[World.setCell]⟩;refine HH.o.head _ ?_ ?_ (by simp[World.setCell]) (fun b hb=>Below.heap_setCell _ _ _ _ hb);·simp[Dk.step,hl,h0]
    ·rw[ae HB.o];simp[Dk.step,hl,h0]);rw[h0]at c3;clear hl h0;go_enter Tryz.func121,Tryz.ntmps121;go_wp2;go_ret;exact HR.o
  ·have HR:=qS (rX w G bd bm d B V (.returned (.bool true)) (w.setCell ⟨bd,3,none⟩ (.int .i64 (d.rM-1)))) (by
    refine⟨by simp[Dk.iT,hl,h0],?_,(ah.refl (fun b=>b=bd) w).setCell (p:=⟨bd,3,none⟩) (fun _=>rfl) _,by simp[World.setCell]⟩;refine HH.o.head _ ?_ ?_ (by simp[World.setCell]) (fun b hb=>Below.heap_setCell _ _ _ _ hb);·simp[Dk.step,hl,h0]
    ·rw[ae HB.o];simp[Dk.step,hl,h0]);clear hl;go_enter Tryz.func121,Tryz.ntmps121;go_wp2;go_ret;exact HR.o
theorem dN.look2{w:World}{b:Nat}{m:Row Value}(h:dN w b m)(k:List UInt8)(hk:k.length≤maxLen)(t e:TypeId)(ht:Tryz.prog.underlying t=some (.map 9 e))(z:Value)(hz:(zeroValue e).run Tryz.prog w=.ok z w):(Instr.lookup t (.map (some b)) (.string ⟨k.toArray⟩) true).run Tryz.prog w=.ok (.tuple #[(aC m k).getD z,.bool (aC m k).isSome]) w:=by obtain⟨v,ps,hr,hv⟩:=World.ownsMap.look_ok h qD ht hz (zd:=.held z) (zp:=[]) rfl (gQ k hk);rw[Im]at hv;rw[hr,Dv];simp only[raw,Option.some.injEq,Prod.mk.injEq,DataW.held.injEq]at hv;rw[hv.1]
theorem dN.len{w:World}{b:Nat}{m:Row Value}(h:dN w b m)(t e:TypeId)(ht:Tryz.prog.underlying t=some (.map 9 e))(ty:TypeId):(Builtin.len_ #[t] ty #[.map (some b)]).run Tryz.prog w=.ok (.int .i64 (m.length:Int)) w:=by have:=World.ownsMap.len (show w.ownsMap Tryz.prog 9 raw b _ _ from h) ht ty;rw[this];simp[mapD,Maps.size]
def mU(w:World)(G:Nat→Prop)(bd:Nat)(d:Dk):Prop:=d.Ok∧ ∃bm B V,iy w G bd bm d B V
def Ht(w:World)(G:Nat→Prop)(bd:Nat)(d':Dk)(w':World):Prop:= ∃G',mU w' G' bd d'∧(∀b,G' b→G b∨w.heap.size≤b)∧ah G w w'
section
variable{w w':World}{G:Nat→Prop}{bd bm:Nat}{d:Dk}{B:List UInt8→Nat}{V:List UInt8→Value}
theorem mU.keep(h:mU w G bd d)(hsz:w.heap.size≤w'.heap.size)(hk: ∀b,G b→w'.heap[b]?=w.heap[b]?):mU w' G bd d:=by obtain⟨ho,bm,B,V,h⟩:=h;exact⟨ho,bm,B,V,h.keep hsz hk⟩
theorem mU.up(h:mU w G bd d)(hb:Below w.heap.size w w'):mU w' G bd d:=by obtain⟨ho,bm,B,V,h⟩:=h;exact⟨ho,bm,B,V,h.up_ hb⟩
theorem mU.lt(h:mU w G bd d): ∀b,G b→b<w.heap.size:=by obtain⟨ho,bm,B,V,h⟩:=h;exact h.lt
theorem Ht.refl(h:mU w G bd d):Ht w G bd d w:=⟨G,h,fun _ h=>.inl h,ah.refl _ _⟩
theorem Dk.YY(d:Dk)(B:List UInt8→Nat)(s:List UInt8):aC (d.files.map fun p=>(p.1,(Value.pointer (some ⟨B p.1,0,none⟩)))) s=(aC d.files s).map fun _=>.pointer (some ⟨B s,0,none⟩):=by unfold aC;rw[List.find?_map];cases hf:d.files.find? ((fun p:List UInt8×Value=>p.1==s)∘fun p=>(p.1,(Value.pointer (some ⟨B p.1,0,none⟩))))with|none=>have:d.files.find? (fun p=>p.1==s)=none:=hf;rw[this];rfl|some p=>have h2:d.files.find? (fun p=>p.1==s)=some p:=hf;have:=List.find?_some h2;simp at this;rw[h2];simp[this]
def jh(d:Dk)(B:List UInt8→Nat)(s:List UInt8):Value:=if(aC d.files s).isSome then .pointer (some ⟨B s,0,none⟩)else .pointer none
theorem iy.look(h:iy w G bd bm d B V)(s:List UInt8)(hs:s.length≤1000000):(Instr.lookup 120 (.map (some bm)) (.string ⟨s.toArray⟩) true).run Tryz.prog w=.ok (.tuple #[jh d B s,.bool (aC d.files s).isSome]) w:=by have:=h.map.look2 s (by unfold maxLen;omega) 120 173 Tryz.underlying120 (.pointer none) (by kernel_rfl);rw[this,Dk.YY];unfold jh;cases aC d.files s<;>rfl
end
theorem El(w:World)(G:Nat→Prop)(bd bm:Nat)(d:Dk)(B:List UInt8→Nat)(V:List UInt8→Value)(h:iy w G bd bm d B V)(s:List UInt8)(hs:s.length≤1000000):Calls Tryz.prog 115 #[.pointer (some ⟨bd,0,none⟩),.string ⟨s.toArray⟩] w fun e w'=>e=.returned (.tuple #[if d.found s=0 then .pointer (some ⟨B s,0,none⟩)else .pointer none,.int .i64 (d.found s)])∧w=w':=by
 obtain⟨c0,c1,c2,c3,c4⟩:=h.cells;have HL:=qH (h.look s hs);have HA:=qH (jr w G bd bm d B V h s);clear h;by_cases h0:d.asked s=0
 ·rw[h0]at HA;cases hg:aC d.files s with
   |none=>
    have hf:d.found s=6:=by unfold Dk.found;rw[if_neg (by simp[h0]),hg];rfl
    have hl:=HL.o;rw[show jh d B s=.pointer none by unfold jh;rw[hg];rfl,hg]at hl;rw[hf];go_enter Tryz.func115,Tryz.ntmps115;go_wp2_with fail;refine HA.o.mono ?_;rintro e w1⟨rfl,rfl⟩;go_wp2;go_ret2;exact⟨rfl,rfl⟩
   |some f=>
    have hf:d.found s=0:=by unfold Dk.found;rw[if_neg (by simp[h0]),hg];rfl
    have hl:=HL.o;rw[show jh d B s=.pointer (some ⟨B s,0,none⟩)by unfold jh;rw[hg];rfl,hg]at hl;rw[hf];go_enter Tryz.func115,Tryz.ntmps115;go_wp2_with fail;refine HA.o.mono ?_;rintro e w1⟨rfl,rfl⟩;go_wp2;go_ret2;exact⟨rfl,rfl⟩
 ·have hf:d.found s=d.asked s:=by unfold Dk.found;rw[if_pos h0]
  have HF:=qH hf;rw[hf,if_neg h0];go_enter Tryz.func115,Tryz.ntmps115;go_wp2_with fail;refine HA.o.mono ?_;rintro e w1⟨rfl,rfl⟩;go_wp2;go_ret2;exact⟨rfl,rfl⟩
theorem xW(w:World)(G:Nat→Prop)(bd bm:Nat)(d:Dk)(B:List UInt8→Nat)(V:List UInt8→Value)(h:iy w G bd bm d B V)(ho:d.Ok)(s:List UInt8)(hs:s.length≤1000000)(m:Int)(hm: -1000000000≤m∧m≤1000000000):Calls Tryz.prog 120 #[.pointer (some ⟨bd,0,none⟩),.string ⟨s.toArray⟩,.int .i64 m] w fun e w'=>e=.returned (.bool (d.fe s m))∧w=w':=by
 obtain⟨c0,c1,c2,c3,c4⟩:=h.cells;have HL:=qH (h.look s hs);have hlen: ∀ty,(Builtin.len_ #[120] ty #[.map (some bm)]).run Tryz.prog w=.ok (.int .i64 (d.files.length:Int)) w:=fun ty=>by rw[h.map.len 120 _ Tryz.underlying120 ty];simp
 have hu0:=ho.used0;have hu1:=ho.max;have hn0:=ho.num;have HFB:=qS (d.fe s m=(decide (4194304<d.used+m)||((aC d.files s).isNone&&decide (4096≤d.files.length)))) (rfl);clear h ho;have hl:=HL.o;by_cases h1:4194304<d.used+m;·have HV:=qS (d.fe s m=true) (by rw[HFB.o,decide_eq_true h1];rfl);generalize(aC d.files s).isSome=there at hl;generalize jh d B s=pp at hl;go_enter Tryz.func120,Tryz.ntmps120;go_wp2;go_ret;exact⟨aa HV.o.symm,rfl⟩
 ·cases hg:aC d.files s with
   |some f=>have HV:=qS (d.fe s m=false) (by rw[HFB.o,decide_eq_false h1,hg];rfl);rw[hg]at hl;generalize jh d B s=pp at hl;clear hg;go_enter Tryz.func120,Tryz.ntmps120;go_wp2;go_ret;exact⟨aa HV.o.symm,rfl⟩
   |none=>
    have HV:=qS (d.fe s m=decide ((4096:Int)≤d.files.length)) (by rw[HFB.o,decide_eq_false h1,hg];simp;omega);rw[hg]at hl;generalize jh d B s=pp at hl;clear hg;by_cases h2:(4096:Int)≤d.files.length;·rw[decide_eq_true h2]at HV;go_enter Tryz.func120,Tryz.ntmps120;go_wp2;go_ret;exact⟨aa HV.o.symm,rfl⟩
    ·rw[decide_eq_false h2]at HV;go_enter Tryz.func120,Tryz.ntmps120;go_wp2;go_ret;exact⟨aa HV.o.symm,rfl⟩
theorem mf{α:Type}{a b:Row α}(ha:bP a)(hb:bP b)(h: ∀p,p∈a↔p∈b):a=b:=by
 have key: ∀m:Row α,bP m→m.Nodup:=fun m hm=>hm.imp fun{x y}hxy e=>by rw[e,az]at hxy;cases hxy
 refine List.Perm.eq_of_pairwise (le:=fun(x y:List UInt8×α)=>bytesBefore x.1 y.1=true) (fun x y _ _ h1 h2=>?_) ha hb ((List.perm_ext_iff_of_nodup (key a ha) (key b hb)).2 h);have:=fq h1 h2;rw[az]at this;cases this
theorem bP.Qa{α β:Type}{m:Row α}(h:bP m)(f:List UInt8→β):bP (m.map fun p=>(p.1,f p.1)):=List.pairwise_map.2 h
section
variable{w w':World}{G:Nat→Prop}{bd bm:Nat}{d:Dk}{B:List UInt8→Nat}{V:List UInt8→Value}
theorem mD{m:Row Fl}(h:bP m){s:List UInt8}{f:Fl}(f':Fl)(hf:aC m s=some f)(g:List UInt8→Value):(aL s f' m).map (fun p=>(p.1,g p.1))=m.map fun p=>(p.1,g p.1):=by
 refine mf ((aZ h s f').Qa g) (h.Qa g) fun p=>?_;simp only[List.mem_map];constructor
 ·rintro⟨q,hq,rfl⟩;rcases aJ.1 hq with rfl|⟨hq,_⟩;·exact⟨_,ak hf,rfl⟩
  ·exact⟨q,hq,rfl⟩
 ·rintro⟨q,hq,rfl⟩;by_cases e:q.1=s;·exact⟨(s,f'),aJ.2 (.inl rfl),by rw[←e]⟩
  ·exact⟨q,aJ.2 (.inr ⟨hq,e⟩),rfl⟩
theorem Dt{m:Row Fl}(h:bP m)(s:List UInt8)(f:Fl)(g g':List UInt8→Value)(hg: ∀t,t≠s→g' t=g t):(aL s f m).map (fun p=>(p.1,g' p.1))=aL s (g' s) (m.map fun p=>(p.1,g p.1)):=by
 refine mf ((aZ h s f).Qa g') (aZ (h.Qa g) _ _) fun p=>?_;rw[aJ];simp only[List.mem_map];constructor
 ·rintro⟨q,hq,rfl⟩;rcases aJ.1 hq with rfl|⟨hq,hne⟩;·exact .inl rfl
  ·exact .inr ⟨⟨q,hq,by rw[hg _ hne]⟩,hne⟩
 ·rintro(rfl|⟨⟨q,hq,rfl⟩,hne⟩);·exact⟨(s,f),aJ.2 (.inl rfl),rfl⟩
  ·exact⟨q,aJ.2 (.inr ⟨hq,hne⟩),by rw[hg _ hne]⟩
theorem iy.set(h:iy w G bd bm d B V)(s:List UInt8)(f':Fl)(v':Value)(bf:Nat)(d':Dk)(hd:d'.files=aL s f' d.files)(hblk:w'.heap[bd]?=some (kX bm d'))(hmap:dN w' bm ((aL s f' d.files).map fun p=>(p.1,.pointer (some ⟨(fun t=>if t=s then bf else B t) p.1,0,none⟩))))(hfl:w'.heap[bf]?=some (xK v' f'))(hown:aR w' 0 v' f'.data)(hsz:w.heap.size≤w'.heap.size)(hk: ∀b,G b→b≠bd→b≠bm→(∀x,aC d.files s=some x→b≠B s∧(V s).ownBlock≠some b)→w'.heap[b]?=w.heap[b]?)(hbf:(∃x,aC d.files s=some x∧bf=B s)∨w.heap.size≤bf)(hv: ∀b,v'.ownBlock=some b→(∃x,aC d.files s=some x∧(V s).ownBlock=some b)∨(w.heap.size≤b∧b≠bf)):iy w' (fun b=>G b∨b=bf∨v'.ownBlock=some b) bd bm d' (fun t=>if t=s then bf else B t) (fun t=>if t=s then v' else V t):=by
 have hbl: ∀p∈d.files,B p.1<w.heap.size:=fun p hp=>h.lt _ (h.gB p hp);have hvl: ∀p∈d.files,∀b,(V p.1).ownBlock=some b→b<w.heap.size:=fun p hp b hb=>h.lt _ (h.gV p hp b hb);have hdl:=h.lt _ h.gd;have qV:=h.lt _ h.gm;have oB: ∀p∈d.files,p.1≠s→B p.1≠bf∧ ∀b,v'.ownBlock=some b→B p.1≠b:=fun p hp hne=>by
  have:=hbl p hp;refine⟨?_,fun b hb=>?_⟩
  ·rcases hbf with⟨x,hx,rfl⟩|hbf;·exact h.WC p hp _ (ak hx) hne
   ·omega
  ·rcases hv b hb with⟨x,hx,e⟩|⟨e,_⟩;·exact Ne.symm ((h.nV _ (ak hx) b e).2.2 p hp)
   ·omega
 have oV: ∀p∈d.files,p.1≠s→ ∀b,(V p.1).ownBlock=some b→b≠bf∧v'.ownBlock≠some b:=fun p hp hne b hb=>by
  have:=hvl p hp b hb;refine⟨?_,fun hb'=>?_⟩
  ·rcases hbf with⟨x,hx,rfl⟩|hbf;·exact(h.nV p hp b hb).2.2 _ (ak hx)
   ·omega
  ·rcases hv b hb' with⟨x,hx,e⟩|⟨e,_⟩;·exact h.WB p hp _ (ak hx) hne b hb e
   ·omega
 have kB: ∀p∈d.files,p.1≠s→w'.heap[B p.1]?=w.heap[B p.1]?:=fun p hp hne=>hk _ (h.gB p hp) (h.nB p hp).1 (h.nB p hp).2 fun x hx=>⟨h.WC p hp _ (ak hx) hne,fun e=>(h.nV _ (ak hx) _ e).2.2 p hp rfl⟩;have kV: ∀p∈d.files,p.1≠s→ ∀b,(V p.1).ownBlock=some b→w'.heap[b]?=w.heap[b]?:=fun p hp hne b hb=>hk _ (h.gV p hp b hb) (h.nV p hp b hb).1 (h.nV p hp b hb).2.1 fun x hx=>⟨(h.nV p hp b hb).2.2 _ (ak hx),fun e=>h.WB p hp _ (ak hx) hne b hb e⟩;have bfn:bf≠bd∧bf≠bm:=by
  rcases hbf with⟨x,hx,rfl⟩|hbf;·exact h.nB _ (ak hx)
  ·exact⟨by omega,by omega⟩
 have vn: ∀b,v'.ownBlock=some b→b≠bd∧b≠bm∧b≠bf:=fun b hb=>by
  rcases hv b hb with⟨x,hx,e⟩|⟨e,e'⟩
  ·have:=h.nV _ (ak hx) b e;refine⟨this.1,this.2.1,?_⟩;rcases hbf with⟨x',hx',rfl⟩|hbf;·exact this.2.2 _ (ak hx')
   ·have:=hvl _ (ak hx) b e;omega
  ·exact⟨by omega,by omega,e'⟩
 refine⟨hblk,by rw[hd];exact hmap,?_,?_,?_,?_,.inl h.gd,.inl h.gm,?_,?_,?_,hd▸aZ h.up _ _,h.nm,?_,?_⟩
 ·rw[hd];intro p hp;rcases aJ.1 hp with rfl|⟨hp,hne⟩;·simpa using hfl
  ·simpa[hne]using(kB p hp hne).trans (h.fl p hp)
 ·rw[hd];intro p hp;rcases aJ.1 hp with rfl|⟨hp,hne⟩;·simpa using hown
  ·simpa[hne]using(h.own p hp).aN (kV p hp hne)
 ·rw[hd];intro p hp q hq hpq;rcases aJ.1 hp with rfl|⟨hp,hne⟩<;>rcases aJ.1 hq with rfl|⟨hq,hne'⟩;·exact absurd rfl hpq
  ·simpa[hne']using(oB q hq hne').1.symm
  ·simpa[hne]using(oB p hp hne).1
  ·simpa[hne,hne']using h.WC p hp q hq hpq
 ·rw[hd];intro p hp q hq hpq b hb;rcases aJ.1 hp with rfl|⟨hp,hne⟩<;>rcases aJ.1 hq with rfl|⟨hq,hne'⟩;·exact absurd rfl hpq
  ·simp only[hne',if_true,if_false]at hb⊢;exact fun e=>(oV q hq hne' b e).2 hb
  ·simp only[hne,if_true,if_false]at hb⊢;exact(oV p hp hne b hb).2
  ·simp only[hne,hne',if_false]at hb⊢;exact h.WB p hp q hq hpq b hb
 ·rw[hd];intro p hp;rcases aJ.1 hp with rfl|⟨hp,hne⟩;·simp
  ·simp only[hne,if_false];exact .inl (h.gB p hp)
 ·rw[hd];intro p hp b hb;rcases aJ.1 hp with rfl|⟨hp,hne⟩;·simp only[if_true]at hb;exact .inr (.inr hb)
  ·simp only[hne,if_false]at hb;exact .inl (h.gV p hp b hb)
 ·rintro b(hb|rfl|hb);·exact Nat.lt_of_lt_of_le (h.lt b hb) hsz
  ·exact(Array.getElem?_eq_some_iff.1 hfl).1
  ·exact(World.ownsRow.lt hown b hb).2
 ·rw[hd];intro p hp;rcases aJ.1 hp with rfl|⟨hp,hne⟩;·simpa using bfn
  ·simpa[hne]using h.nB p hp
 ·rw[hd];intro p hp b hb;rcases aJ.1 hp with rfl|⟨hp,hne⟩
  ·simp only[if_true]at hb;refine⟨(vn b hb).1,(vn b hb).2.1,fun q hq=>?_⟩;rcases aJ.1 hq with rfl|⟨hq,hne'⟩;·simpa using(vn b hb).2.2
   ·simpa[hne']using((oB q hq hne').2 b hb).symm
  ·simp only[hne,if_false]at hb;refine⟨(h.nV p hp b hb).1,(h.nV p hp b hb).2.1,fun q hq=>?_⟩;rcases aJ.1 hq with rfl|⟨hq,hne'⟩;·simpa using(oV p hp hne b hb).1
   ·simpa[hne']using(h.nV p hp b hb).2.2 q hq
end
def Dk.made(d:Dk)(s:List UInt8):Dk:=d.put s (d.file s)
def yx(w:World)(G:Nat→Prop)(bd bm:Nat)(d:Dk)(s:List UInt8)(e:Ending)(w':World):Prop:= ∃G' B' V' f,e=.returned (.pointer (some ⟨B' s,0,none⟩))∧iy w' G' bd bm (d.made s) B' V'∧aC (d.made s).files s=some f∧f=d.file s∧(∀b,G' b→G b∨w.heap.size≤b)∧ah G w w'
theorem xX(w:World)(G:Nat→Prop)(bd bm:Nat)(d:Dk)(B:List UInt8→Nat)(V:List UInt8→Value)(h:iy w G bd bm d B V)(ho:d.Ok)(s:List UInt8)(hs:s.length≤1000000):Calls Tryz.prog 122 #[.pointer (some ⟨bd,0,none⟩),.string ⟨s.toArray⟩] w (yx w G bd bm d s):=by
 obtain⟨c0,c1,c2,c3,c4⟩:=h.cells;have hl:=h.look s hs;have hn0:=ho.num;have HH:=qH h;have HO:=qH ho;have hdl:=h.lt _ h.gd;have qV:=h.lt _ h.gm;cases hg:aC d.files s with
  |some f=>
   have HR:=qS (yx w G bd bm d s (.returned (.pointer (some ⟨B s,0,none⟩))) w) (by
    have e:d.made s=d:=by
     unfold Dk.made Dk.put Dk.file;rw[hg];have:aL s f d.files=d.files:=mf (aZ h.up _ _) h.up fun p=>by
      rw[aJ];constructor
      ·rintro(rfl|h);·exact ak hg
       ·exact h.1
      ·intro hp;by_cases e:p.1=s;·left;exact h.up.key hp (ak hg) e
       ·exact .inr ⟨hp,e⟩
     simp only[Option.getD_some,this]
    exact⟨G,B,V,f,rfl,by rw[e];exact h,by rw[e];exact hg,by unfold Dk.file;rw[hg];rfl,fun _ h=>.inl h,ah.refl _ _⟩);rw[show jh d B s=.pointer (some ⟨B s,0,none⟩)by unfold jh;rw[hg];rfl,hg]at hl;clear h hg ho;go_enter Tryz.func122,Tryz.ntmps122;go_wp2;go_ret;exact HR.o
  |none=>
   rw[show jh d B s=.pointer none by unfold jh;rw[hg];rfl,hg]at hl;have HG:=qH hg;clear h hg ho;go_enter Tryz.func122,Tryz.ntmps122;go_wp2_with(at_mapUpdate;refine aX rfl _ _ _ _ _ rfl Tryz.underlying120 bm _ rfl (HH.o.map.block ?c1) ?c2 s rfl ?c3 _ rfl ?_);case c1=>exact heap_alloc_old _ _ qV
   case c2=>simp;unfold maxLen;omega
   case c3=>unfold maxLen;omega
   intro w1 hm1 hg1;have HR:=qS (yx w G bd bm d s (.returned (.pointer (some ⟨w.heap.size,0,none⟩))) w1) (by
    have hfn:d.file s=Fl.none:=by unfold Dk.file;rw[HG.o];rfl
    have hs1:w.heap.size+1≤w1.heap.size:=by have:=hg1.size;simpa using this
    have hk1: ∀b,b<w.heap.size→b≠bm→w1.heap[b]?=w.heap[b]?:=fun b hb hne=>(hg1.block b (by simp;omega) (fun e=>hne (by simpa using e))).trans (heap_alloc_old _ _ hb);have hnb:w1.heap[w.heap.size]?=some (xK (.slice none 0 0) Fl.none):=(hg1.block _ (by simp) (fun e=>absurd (show w.heap.size=bm by simpa using e) (by omega))).trans (heap_alloc_new w _);have key:=HH.o.set (w':=w1) s Fl.none (.slice none 0 0) w.heap.size (d.made s) (by unfold Dk.made;rw[hfn];rfl) ((hk1 bd hdl HH.o.nm).trans HH.o.blk) (by have:=Dt HH.o.up s Fl.none (fun t=>.pointer (some ⟨B t,0,none⟩)) (fun t=>.pointer (some ⟨if t=s then w.heap.size else B t,0,none⟩)) (fun t ht=>by simp[ht]);rw[this];simpa using hm1) hnb (aR.nil _ _) (by omega) (fun b hb _ h2 _=>hk1 b (HH.o.lt b hb) h2) (.inr (Nat.le_refl _)) (fun b hb=>by cases hb);refine⟨_,_,_,Fl.none,?_,key,?_,hfn.symm,?_,?_⟩;·simp
    ·unfold Dk.made;rw[hfn];exact dE _ _ _
    ·rintro b(hb|rfl|hb);·exact .inl hb
     ·exact .inr (Nat.le_refl _)
     ·cases hb
    ·exact((ah.refl G w).alloc _).trans (ah.bV (F:=fun b=>b=bm) hg1 (fun k e=>by simpa using e.symm)) (fun b _ e=>e▸HH.o.gm));clear hm1 hg1;go_wp2;go_ret;exact HR.o
theorem zo{α:Type}{m:Row α}(h:bP m)(k:List UInt8)(u v:α):aL k v (aL k u m)=aL k v m:=by
 refine mf (aZ (aZ h _ _) _ _) (aZ h _ _) fun p=>?_;simp only[aJ];constructor
 ·rintro(h|⟨(rfl|h),hn⟩);·exact .inl h
  ·exact absurd rfl hn
  ·exact .inr h
 ·rintro(h|h);·exact .inl h
  ·exact .inr ⟨.inr h,h.2⟩
theorem fA.pY{w w':World}{G:Nat→Prop}{A:Option Addr}{n c:Nat}{l:List UInt8}(h:fA w w.heap.size A n c l)(hA: ∀b off,A=some ⟨b,off,none⟩→ ¬G b)(hk:ah G w w'):fA w' w'.heap.size A n c l:=by refine⟨h.len,h.cap,h.max,fun hn=>?_⟩;obtain⟨b,off,e,hb,hc⟩:=h.cell hn;have:=hk.size;exact⟨b,off,e,by omega,fun i hi=>(hk.cell (p:=⟨b,off+i,none⟩) hb (hA b off e)).trans (hc i hi)⟩
def gU(w:World)(G:Nat→Prop)(bd:Nat)(d':Dk)(er:Int)(e:Ending)(w':World):Prop:=e=.returned (.int .i64 er)∧Ht w G bd d' w'
theorem Dk.KR{d:Dk}{s b:List UInt8}(h:d.asked s≠0):d.append s b=d∧d.bO s b=d.asked s:=by unfold Dk.append Dk.bO;rw[if_pos h,if_pos h];exact⟨rfl,rfl⟩
theorem Dk.Ew{d:Dk}{s b:List UInt8}(h:d.asked s=0)(hf:d.fe s b.length=true):d.append s b=d∧d.bO s b=5:=by unfold Dk.append Dk.bO;simp[h,hf]
def Dk.added(d:Dk)(s b:List UInt8):Dk:={d.put s {d.file s with data:=(d.file s).data++b}with used:=d.used+b.length}
theorem Dk.GA{d:Dk}{s b:List UInt8}(h:d.asked s=0)(hf:d.fe s b.length=false):d.append s b=(d.added s b).step∧d.bO s b=if(d.added s b).iT then 0 else 8:=by unfold Dk.append Dk.bO;simp only[h,hf,ne_eq,not_true_eq_false,if_false,Bool.false_eq_true];exact⟨rfl,rfl⟩
theorem iy.tK{w:World}{G:Nat→Prop}{bd bm:Nat}{d:Dk}{B:List UInt8→Nat}{V:List UInt8→Value}(h:iy w G bd bm d B V){s:List UInt8}{f:Fl}(hf:aC d.files s=some f):w.cell? ⟨B s,0,none⟩=some (V s)∧w.cell? ⟨B s,1,none⟩=some (.int .i64 f.lasts)∧w.cell? ⟨B s,2,none⟩=some (.bool f.stays):=by have key: ∀o,w.cell? ⟨B s,o,none⟩=_:=fun o=>cell_of_row w (B s) o _ _ (0,0) (h.fl _ (ak hf));exact⟨(key 0).trans rfl,(key 1).trans rfl,(key 2).trans rfl⟩
theorem KM (w : World) (G : Nat → Prop) (bd : Nat) (d : Dk) (h : mU w G bd d) (s : List UInt8) (hs : s.length ≤ 1000000) (A : Option Addr) (n c : Nat) (b : List UInt8) (hb : fA w w.heap.size A n c b) (hA : ∀ b off, A = some ⟨b, off, none⟩ → ¬ G b) (hn : n ≤ 1000000) :
    Calls Tryz.prog 82 #[.pointer (some ⟨bd, 0, none⟩), .string ⟨s.toArray⟩, .slice A n c] w (gU w G bd (d.append s b) (d.bO s b)) := by
  have HI := qH h
  obtain ⟨ho, bm, B, V, h⟩ := h
  have HH := qH h; have HO := qH ho; have HB := qH hb; have HA := qH hA
  have hbl : b.length = n := hb.len
  have hu0 := ho.used0
  have hu1 := ho.max
  clear h ho hb hA
  by_cases h0 : d.asked s = 0
  · have TB := jr w G bd bm d B V HH.o s
    rw [h0] at TB
    have qP := qH TB; clear TB
    have hcf := xW w G bd bm d B V HH.o HO.o s hs n (by omega)
    cases hf : d.fe s n
    · rw [hf] at hcf
      have UU := qH hcf; clear hcf
      have hE := Dk.GA (b := b) h0 (by rw [hbl]; exact hf)
      have HE := qH hE; clear hE
      have hfn := Dk.vU hf
      have Jf := qH hfn.2
      have hfm := hfn.1
      clear hfn
      have HZ := qH h0; have HF := qH hf
      clear h0 hf
      go_enter Tryz.func82, Tryz.ntmps82
      go_wp2_with fail
      refine qP.o.mono ?_
      rintro e w0 ⟨rfl, rfl⟩
      go_wp2_with fail
      refine UU.o.mono ?_
      rintro e w0 ⟨rfl, rfl⟩
      go_wp2_with fail
      refine (xX w G bd bm d B V HH.o HO.o s hs).mono ?_
      rintro e w1 ⟨G1, B1, V1, f, rfl, hd1, hf1, Tz, hG1, hk1⟩
      have HD1 := qH hd1; have pO := qH hf1; have Hm := qH Tz; have EY := qH hG1; have zZ := qH hk1
      have HB1 := qH (HB.o.pY HA.o hk1)
      obtain ⟨x0, x1, x2⟩ := hd1.tK hf1
      have hs1 := hk1.size
      have HOW := qH (hd1.own _ (ak hf1))
      have hdl : f.data.length ≤ 4194304 := by rw [Tz]; have := HO.o.xL s; omega
      clear hd1 hf1 Tz hG1 hk1 x1 x2
      go_wp2_with (at_builtin; refine bJ rfl (.tmp 27) (.tmp 28) rfl 0 _ f.data rfl HOW.o w1.heap.size _ _ _ b rfl HB1.o ?c3 (Nat.zero_le _) ?_)
      case c3 => omega
      intro v2 w2 ho2 hg2 hv2
      have hne : B1 s ≠ bd := (HD1.o.nB _ (ak pO.o)).1
      have hV : ∀ k, (V1 s).ownBlock = some k → k ≠ bd ∧ k ≠ bm ∧ k ≠ B1 s := fun k hk => by
        have := HD1.o.nV _ (ak pO.o) k hk
        exact ⟨this.1, this.2.1, this.2.2 _ (ak pO.o)⟩
      have hbs : B1 s < w1.heap.size := HD1.o.lt _ (HD1.o.gB _ (ak pO.o))
      have We : bd < w1.heap.size := HD1.o.lt _ HD1.o.gd
      have V8 : bm < w1.heap.size := HD1.o.lt _ HD1.o.gm
      have hs2 : w1.heap.size ≤ w2.heap.size := hg2.size
      have k2 : ∀ k, k < w1.heap.size → (V1 s).ownBlock ≠ some k → w2.heap[k]? = w1.heap[k]? := fun k hk hn => hg2.block k hk (fun e => hn e.symm)
      have y0 : w2.heap[B1 s]? = some (xK (V1 s) f) := (k2 _ hbs (fun e => (hV _ e).2.2 rfl)).trans (HD1.o.fl _ (ak pO.o))
      have y1 : w2.heap[bd]? = some (kX bm (d.made s)) := (k2 _ We (fun e => (hV _ e).1 rfl)).trans HD1.o.blk
      have z0 : w2.cell? ⟨B1 s, 0, none⟩ = some (V1 s) := (cell_of_row w2 (B1 s) 0 _ _ (0, 0) y0).trans rfl
      have z0f : w2.frozen? ⟨B1 s, 0, none⟩ = false := frozen_of_row w2 (B1 s) 0 _ _ y0
      have z1 : w2.cell? ⟨bd, 1, none⟩ = some (.int .i64 d.used) := (cell_of_row w2 bd 1 _ _ (0, 0) y1).trans rfl
      have z1f : w2.frozen? ⟨bd, 1, none⟩ = false := frozen_of_row w2 bd 1 _ _ y1
      have HD4 := qS (∃ G4 B4 V4, iy ((w2.setCell ⟨B1 s, 0, none⟩ v2).setCell ⟨bd, 1, none⟩ (.int .i64 (d.used + n))) G4 bd bm (d.added s b) B4 V4 ∧ (∀ k, G4 k → G1 k ∨ w1.heap.size ≤ k)) (by
        have M4 : (d.made s).files = aL s (d.file s) d.files := rfl
        have y0' : ((w2.setCell ⟨B1 s, 0, none⟩ v2).setCell ⟨bd, 1, none⟩ (.int .i64 (d.used + n))).heap[B1 s]? = some (xK v2 { f with data := f.data ++ b }) := by
          rw [Below.heap_setCell _ _ _ _ hne, ae y0]; rfl
        have y1' : ((w2.setCell ⟨B1 s, 0, none⟩ v2).setCell ⟨bd, 1, none⟩ (.int .i64 (d.used + n))).heap[bd]? = some (kX bm (d.added s b)) := by
          rw [ae ((Below.heap_setCell w2 ⟨B1 s, 0, none⟩ v2 bd (Ne.symm hne)).trans y1)]; simp [Dk.added, Dk.put, Dk.made, hbl]
        have kk : ∀ k, k ≠ bd → k ≠ B1 s → ((w2.setCell ⟨B1 s, 0, none⟩ v2).setCell ⟨bd, 1, none⟩ (.int .i64 (d.used + n))).heap[k]? = w2.heap[k]? := fun k h1 h2 => by
          rw [Below.heap_setCell _ _ _ _ h1, Below.heap_setCell _ _ _ _ h2]
        have hvB : ∀ k, v2.ownBlock = some k → k ≠ bd ∧ k ≠ B1 s := fun k hk => by
          rcases hv2 with e | e
          · have := hV k (e ▸ hk); exact ⟨this.1, this.2.2⟩
          · rw [e] at hk; injection hk with hk; exact ⟨by omega, by omega⟩
        refine ⟨_, _, _, HD1.o.set (w' := (w2.setCell ⟨B1 s, 0, none⟩ v2).setCell ⟨bd, 1, none⟩ (.int .i64 (d.used + n))) s { f with data := f.data ++ b } v2 (B1 s) (d.added s b) ?_ y1' ?_ y0' ?_ ?_ ?_ (.inl ⟨f, pO.o, rfl⟩) ?_, ?_⟩
        · rw [M4, zo HH.o.up, Hm.o]; rfl
        · have e := mD HD1.o.up { f with data := f.data ++ b } pO.o (fun t => (.pointer (some ⟨if t = s then B1 s else B1 t, 0, none⟩)))
          rw [e]
          have e2 : (fun p : List UInt8 × Fl => (p.1, Value.pointer (some ⟨if p.1 = s then B1 s else B1 p.1, 0, none⟩))) = fun p => (p.1, .pointer (some ⟨B1 p.1, 0, none⟩)) := by
            funext p; split
            · next h => rw [h]
            · rfl
          rw [e2]
          exact HD1.o.map.block ((kk bm HD1.o.nm.symm (HD1.o.nB _ (ak pO.o)).2.symm).trans (k2 bm V8 (fun e => (hV _ e).2.1 rfl)))
        · exact ho2.aN fun k hk => kk k (hvB k hk).1 (hvB k hk).2
        · simpa [World.setCell] using hs2
        · intro k hk h1 h2 h3
          exact (kk k h1 (h3 f pO.o).1).trans (k2 k (HD1.o.lt k hk) (h3 f pO.o).2)
        · intro k hk
          rcases hv2 with e | e
          · exact .inl ⟨f, pO.o, e ▸ hk⟩
          · rw [e] at hk; injection hk with hk; exact .inr ⟨by omega, by omega⟩
        · rintro k (hk | rfl | hk)
          · exact .inl hk
          · exact .inl (HD1.o.gB _ (ak pO.o))
          · rcases hv2 with e | e
            · exact .inl (HD1.o.gV _ (ak pO.o) k (e ▸ hk))
            · rw [e] at hk; injection hk with hk; exact .inr (by omega))
      have Lh := qS (ah G w ((w2.setCell ⟨B1 s, 0, none⟩ v2).setCell ⟨bd, 1, none⟩ (.int .i64 (d.used + n)))) (by
        have hin : ∀ k, k < w.heap.size → G1 k → G k := fun k hk hg => (EY.o k hg).elim id (fun h => by omega)
        refine (zZ.o.trans (ah.bV (F := G1) hg2 (fun k e => HD1.o.gV _ (ak pO.o) k e)) hin).setCell (p := ⟨B1 s, 0, none⟩) (fun h => hin _ h (HD1.o.gB _ (ak pO.o))) _ |>.setCell (p := ⟨bd, 1, none⟩) (fun h => hin _ h HD1.o.gd) _)
      obtain ⟨A2, c2, e2⟩ := ho2.form
      clear x0 ho2 hg2 hv2 hV hbs We V8 k2 y0 y1
      generalize (f.data ++ b).length = n2 at e2
      subst e2
      go_wp2_with fail
      obtain ⟨G4, B4, V4, hd4, hG4⟩ := HD4.o
      have HD5 := qH hd4; have oK := qH hG4
      have hsz4 := Lh.o.size
      clear hd4 hG4 HD4 z0 z0f z1 z1f
      generalize ((w2.setCell ⟨B1 s, 0, none⟩ (.slice A2 n2 c2)).setCell ⟨bd, 1, none⟩ (.int .i64 (d.used + n))) = w4 at *
      have hoa : (d.added s b).Ok := by
        refine HO.o.put s _ _ ?_ (by rw [hbl]; exact hfm) Jf.o ?_
        · show d.used + (b.length : Int) = d.used - (d.file s).data.length + (((d.file s).data ++ b).length : Nat); simp; omega
        · have := HO.o.Ec s; simp; omega
      have sJ := qH hoa
      have hfu := And.intro hoa.fuse0 hoa.fuse1
      clear hoa
      refine (qK w4 G4 bd bm (d.added s b) B4 V4 HD5.o hfu).mono ?_
      rintro e w5 ⟨rfl, hd5, hk5, hs5⟩
      have HR := qS (Ht w G bd (d.append s b) w5) (by
        rw [HE.o.1]
        refine ⟨G4, ⟨sJ.o.step, bm, B4, V4, hd5⟩, fun k hk => ?_, Lh.o.trans hk5 (fun k _ e => e ▸ HH.o.gd)⟩
        rcases oK.o k hk with h | h
        · exact EY.o k h
        · exact .inr (by omega))
      have YP := qH HE.o.2
      clear hd5 hk5 hs5 hfu
      cases hst : (d.added s b).iT
      · rw [hst] at YP
        go_wp2
        go_ret
        exact ⟨aY YP.o.symm, HR.o⟩
      · rw [hst] at YP
        go_wp2
        go_ret
        exact ⟨aY YP.o.symm, HR.o⟩
    · rw [hf] at hcf
      have UU := qH hcf; clear hcf
      have hE := Dk.Ew (b := b) h0 (by rw [hbl]; exact hf)
      have HR := qS (gU w G bd (d.append s b) (d.bO s b) (.returned (.int .i64 5)) w) (⟨by rw [hE.2], by rw [hE.1]; exact Ht.refl HI.o⟩)
      clear hE h0 hf
      go_enter Tryz.func82, Tryz.ntmps82
      go_wp2_with fail
      refine qP.o.mono ?_
      rintro e w0 ⟨rfl, rfl⟩
      go_wp2_with fail
      refine UU.o.mono ?_
      rintro e w0 ⟨rfl, rfl⟩
      go_wp2
      go_ret
      exact HR.o
  · have qP := qH (jr w G bd bm d B V HH.o s)
    have hE := Dk.KR (b := b) h0
    have HR := qS (gU w G bd (d.append s b) (d.bO s b) (.returned (.int .i64 (d.asked s))) w) (⟨by rw [hE.2], by rw [hE.1]; exact Ht.refl HI.o⟩)
    clear hE
    generalize d.asked s = q at *
    go_enter Tryz.func82, Tryz.ntmps82
    go_wp2_with fail
    refine qP.o.mono ?_
    rintro e w0 ⟨rfl, rfl⟩
    go_wp2
    go_ret
    exact HR.o
theorem Gm(w:World)(G:Nat→Prop)(bd:Nat)(d:Dk)(h:mU w G bd d)(s:List UInt8)(hs:s.length≤1000000):Calls Tryz.prog 73 #[.pointer (some ⟨bd,0,none⟩),.string ⟨s.toArray⟩] w (gU w G bd (d.sync s) (d.bT s)):=by
 have HI:=qH h;obtain⟨ho,bm,B,V,h⟩:=h;have HH:=qH h;have HO:=qH ho;have hcf:=El w G bd bm d B V h s hs;have hfu:=And.intro ho.fuse0 ho.fuse1;clear h ho;by_cases h0:d.found s=0
 ·rw[if_pos h0,h0]at hcf;have UU:=qH hcf;clear hcf;have hfz:=Dk.xI h0;obtain⟨f,hf⟩:=Option.isSome_iff_exists.1 hfz.2;have Tz:d.file s=f:=by unfold Dk.file;rw[hf];rfl
  have hE:d.sync s=(if d.iT then d.step.put s {f with lasts:=f.data.length,stays:=true}else d.step)∧d.bT s=if d.iT then 0 else 8:=by unfold Dk.sync Dk.bT;simp only[h0,Tz,ne_eq,not_true_eq_false,if_false,and_self]
  have HE:=qH hE;have HF:=qH hf;have hdl:f.data.length≤4194304:=by have:=HO.o.xL s;have:=HO.o.max;rw[Tz]at*;omega
  clear hE hf h0 hfz Tz;go_enter Tryz.func73,Tryz.ntmps73;go_wp2_with fail;refine UU.o.mono ?_;rintro e w0⟨rfl,rfl⟩;go_wp2_with fail;refine(qK w G bd bm d B V HH.o hfu).mono ?_;rintro e w1⟨rfl,hd1,hk1,hs1⟩;have HD1:=qH hd1;have zZ:=qH hk1;have hf1:aC d.step.files s=some f:=by rw[d.dI.1];exact HF.o
  have pO:=qH hf1;obtain⟨x0,x1,x2⟩:=hd1.tK hf1;have x1f:w1.frozen? ⟨B s,1,none⟩=false:=frozen_of_row w1 (B s) 1 _ _ (hd1.fl _ (ak hf1));have YW:w1.frozen? ⟨B s,2,none⟩=false:=frozen_of_row w1 (B s) 2 _ _ (hd1.fl _ (ak hf1));clear hf1 hd1 hk1;cases hst:d.iT;·have HR:=qS (gU w G bd (d.sync s) (d.bT s) (.returned (.int .i64 8)) w1) (by rw[HE.o.1,HE.o.2,hst];exact⟨rfl,G,⟨HO.o.step,bm,B,V,HD1.o⟩,fun _ h=>.inl h,zZ.o.mono (fun b _ e=>e▸HH.o.gd)⟩);clear x0 x1 x2 x1f YW hst;go_wp2;go_ret;exact HR.o
  ·have HOW:=qH (HD1.o.own _ (ak pO.o));obtain⟨A1,c1,e1⟩:=HOW.o.form;replace e1:V s=.slice A1 f.data.length c1:=e1;have HR:=qS (gU w G bd (d.sync s) (d.bT s) (.returned (.int .i64 0)) ((w1.setCell ⟨B s,1,none⟩ (.int .i64 f.data.length)).setCell ⟨B s,2,none⟩ (.bool true))) (by
    have hso:=HO.o.sync s;rw[HE.o.1,HE.o.2,hst];rw[HE.o.1,hst]at hso;have hfl:=HD1.o.fl _ (ak pO.o);have hB:=HD1.o.nB _ (ak pO.o);have kk: ∀k,k≠B s→((w1.setCell ⟨B s,1,none⟩ (.int .i64 f.data.length)).setCell ⟨B s,2,none⟩ (.bool true)).heap[k]?=w1.heap[k]?:=fun k h1=>by rw[Below.heap_setCell _ _ _ _ h1,Below.heap_setCell _ _ _ _ h1]
    have e:=mD HD1.o.up {f with lasts:=f.data.length,stays:=true} pO.o (fun t=>(.pointer (some ⟨if t=s then B s else B t,0,none⟩)));have e2:(fun p:List UInt8×Fl=>(p.1,Value.pointer (some ⟨if p.1=s then B s else B p.1,0,none⟩)))=fun p=>(p.1,.pointer (some ⟨B p.1,0,none⟩)):=by
     funext p;split;·next h=>rw[h]
     ·rfl
    have key:=HD1.o.set (w':=(w1.setCell ⟨B s,1,none⟩ (.int .i64 f.data.length)).setCell ⟨B s,2,none⟩ (.bool true)) s {f with lasts:=f.data.length,stays:=true} (V s) (B s) (d.step.put s {f with lasts:=f.data.length,stays:=true}) rfl ((kk bd hB.1.symm).trans HD1.o.blk) (by rw[e,e2];exact HD1.o.map.block (kk bm hB.2.symm)) (by rw[ae (ae hfl)];rfl) (HOW.o.aN fun k hk=>kk k ((HD1.o.nV _ (ak pO.o) k hk).2.2 _ (ak pO.o))) (by simp[World.setCell]) (fun k _ _ _ h3=>kk k (h3 f pO.o).1) (.inl ⟨f,pO.o,rfl⟩) (fun k hk=>.inl ⟨f,pO.o,hk⟩);refine⟨rfl,_,⟨hso,bm,_,_,key⟩,?_,?_⟩
    ·rintro k(hk|rfl|hk);·exact .inl hk
     ·exact .inl (HD1.o.gB _ (ak pO.o))
     ·exact .inl (HD1.o.gV _ (ak pO.o) k hk)
    ·exact((zZ.o.mono (fun b _ e=>e▸HH.o.gd)).setCell (p:=⟨B s,1,none⟩) (fun _=>HD1.o.gB _ (ak pO.o)) _).setCell (p:=⟨B s,2,none⟩) (fun _=>HD1.o.gB _ (ak pO.o)) _);rw[e1]at x0;clear hst e1;go_wp2;go_ret;exact HR.o
 ·rw[if_neg h0]at hcf;have UU:=qH hcf;clear hcf;have hE:d.sync s=d∧d.bT s=d.found s:=by unfold Dk.sync Dk.bT;rw[if_pos h0,if_pos h0];exact⟨rfl,rfl⟩
  have HR:=qS (gU w G bd (d.sync s) (d.bT s) (.returned (.int .i64 (d.found s))) w) (⟨by rw[hE.2],by rw[hE.1];exact Ht.refl HI.o⟩);clear hE;generalize d.found s=q at*;go_enter Tryz.func73,Tryz.ntmps73;go_wp2_with fail;refine UU.o.mono ?_;rintro e w0⟨rfl,rfl⟩;go_wp2;go_ret;exact HR.o
theorem Dk.PU{d:Dk}{s b:List UInt8}(h:d.asked s≠0):d.replace s b=d∧d.bz s b=d.asked s:=by unfold Dk.replace Dk.bz;rw[if_pos h,if_pos h];exact⟨rfl,rfl⟩
theorem Dk.JP{d:Dk}{s b:List UInt8}(h:d.asked s=0)(hf:d.fe s (b.length-(d.file s).data.length)=true):d.replace s b=d∧d.bz s b=5:=by unfold Dk.replace Dk.bz;simp[h,hf]
theorem Dk.CZ{d:Dk}{s b:List UInt8}(h:d.asked s=0)(hf:d.fe s (b.length-(d.file s).data.length)=false):d.replace s b=(if d.iT then{d.step.put s ⟨b,b.length,true⟩with used:=d.used+(b.length-(d.file s).data.length)}else d.step)∧d.bz s b=if d.iT then 0 else 8:=by unfold Dk.replace Dk.bz;simp only[h,hf,ne_eq,not_true_eq_false,if_false,Bool.false_eq_true];exact⟨trivial,trivial⟩
theorem Gn(w:World)(G:Nat→Prop)(bd:Nat)(d:Dk)(h:mU w G bd d)(s:List UInt8)(hs:s.length≤1000000)(A:Option Addr)(n c:Nat)(b:List UInt8)(hb:fA w w.heap.size A n c b)(hA: ∀b off,A=some ⟨b,off,none⟩→ ¬G b)(hn:n≤1000000):Calls Tryz.prog 72 #[.pointer (some ⟨bd,0,none⟩),.string ⟨s.toArray⟩,.slice A n c] w (gU w G bd (d.replace s b) (d.bz s b)):=by
 have HI:=qH h;obtain⟨ho,bm,B,V,h⟩:=h;have HH:=qH h;have HO:=qH ho;have HB:=qH hb;have HA:=qH hA;have hbl:b.length=n:=hb.len;have hu0:=ho.used0;have hu1:=ho.max;have c0:=h.cells.1;have HL:=qH (h.look s hs);have hfu:=And.intro ho.fuse0 ho.fuse1;have hfl:=ho.xL s;clear h ho hb hA;by_cases h0:d.asked s=0
 ·have TB:=jr w G bd bm d B V HH.o s;rw[h0]at TB;have qP:=qH TB;clear TB;obtain⟨old,hold⟩: ∃old:Nat,old=(d.file s).data.length:=⟨_,rfl⟩;have hcf:=xW w G bd bm d B V HH.o HO.o s hs ((n:Int)-old) (by omega);have HZ:=qH h0;have hpre: ∀(Q:World→Prop),True:=fun _=>trivial;clear hpre h0;rw[←hold]at hfl;have Ja:=qH hold;have hfd:(aC d.files s=none∧old=0)∨(∃f,aC d.files s=some f∧f.data.length=old):=by cases hg:aC d.files s with|none=>exact .inl ⟨rfl,by rw[hold];unfold Dk.file;rw[hg];rfl⟩|some f=>exact .inr ⟨f,rfl,by rw[hold];unfold Dk.file;rw[hg];rfl⟩
  clear hold;have hw1:wrap64 ((n:Int)-old)=(n:Int)-old:=by unfold wrap64;omega
  go_enter Tryz.func72,Tryz.ntmps72;go_wp2_with fail;refine qP.o.mono ?_;rintro e w0⟨rfl,rfl⟩;have hl:=HL.o;rcases hfd with⟨hg,ho0⟩|⟨f,hg,hfo⟩;case' inl=>rw[show jh d B s=.pointer none by unfold jh;rw[hg];rfl,hg]at hl;clear hg;go_wp2_with fail
  case' inr=>rw[show jh d B s=.pointer (some ⟨B s,0,none⟩)by unfold jh;rw[hg];rfl,hg]at hl;obtain⟨x0,x1,x2⟩:=HH.o.tK hg;obtain⟨Av,cv,hv⟩:=(HH.o.own _ (ak hg)).form;replace hv:V s=.slice Av f.data.length cv:=hv;rw[hv,hfo]at x0;clear hg x1 x2 hv hfo;go_wp2_with fail;clear x0
  case' inl=>
   have V3:Calls Tryz.prog 120 #[.pointer (some ⟨bd,0,none⟩),.string ⟨s.toArray⟩,.int .i64 (n:Int)] w fun e w'=>e=.returned (.bool (d.fe s ((n:Int)-old)))∧w=w':=by rw[show(Value.int .i64 (n:Int))=.int .i64 ((n:Int)-old)by rw[ho0];simp];exact hcf
   with_reducible refine V3.mono ?_
   clear V3
  case' inr=>with_reducible refine hcf.mono ?_
  all_goals
   clear hcf;rintro e w0⟨rfl,rfl⟩;have hfE: ∀q,d.fe s ((n:Int)-old)=q→d.fe s (b.length-(d.file s).data.length)=q:=fun q h=>by rw[hbl,←Ja.o];exact h
   have HFE:=qH hfE;clear hfE hl c0;cases hf:d.fe s ((n:Int)-old);case true=>have hE:=Dk.JP (b:=b) HZ.o (HFE.o _ hf);have HR:=qS (gU w G bd (d.replace s b) (d.bz s b) (.returned (.int .i64 5)) w) (⟨by rw[hE.2],by rw[hE.1];exact Ht.refl HI.o⟩);clear hE hf;go_wp2;go_ret;exact HR.o
   have HE:=qH (Dk.CZ (b:=b) HZ.o (HFE.o _ hf));have Jf:=qH (Dk.vU hf);clear hf;go_wp2_with fail;with_reducible refine(qK w G bd bm d B V HH.o hfu).mono ?_
   rintro e w1⟨rfl,hd1,hk1,hs1⟩;have HD1:=qH hd1;have zZ:=qH hk1;have oI:=qH hs1;clear hd1 hk1 hs1 hfu;cases hst:d.iT;case false=>have HR:=qS (gU w G bd (d.replace s b) (d.bz s b) (.returned (.int .i64 8)) w1) (by have:=HE.o;rw[hst]at this;rw[this.1,this.2];exact⟨rfl,G,⟨HO.o.step,bm,B,V,HD1.o⟩,fun _ h=>.inl h,zZ.o.mono (fun b _ e=>e▸HH.o.gd)⟩);clear hst;go_wp2;go_ret;exact HR.o
   have HE2:=qS (d.replace s b={d.step.put s ⟨b,b.length,true⟩with used:=d.used+(b.length-(d.file s).data.length)}∧d.bz s b=0) (by have:=HE.o;rw[hst]at this;exact this);clear hst;go_wp2_with fail;with_reducible refine(xX w1 G bd bm d.step B V HD1.o HO.o.step s hs).mono ?_
   rintro e w2⟨G2,B2,V2,f2,rfl,hd2,hf2,hff2,hG2,hk2⟩;have HD2:=qH hd2;have wE:=qH hf2;have HG2:=qH hG2;have sD:=qS (ah G w w2) ((zZ.o.mono (fun b _ e=>e▸HH.o.gd)).trans hk2 (fun _ _ h=>h));have HB2:=qH (HB.o.pY HA.o sD.o);have hsz2:=sD.o.size;have hs12:=hk2.size;clear hd2 hf2 hff2 hG2 hk2;go_wp2_with(at_builtin;refine bJ rfl (.tmp 47) (.tmp 48) rfl w2.heap.size _ [] rfl ?c1 w2.heap.size _ _ _ b rfl ?c2 ?c3 ?c4 ?_);case c1=>exact World.ownsRow_lit w2 #[] 0 (Nat.le_refl _) (by simp[maxLen]) rfl
   case c2=>exact HB2.o.alloc (Nat.le_refl _) _
   case c3=>simp;omega
   case c4=>simp
   intro v3 w3 ho3 hg3 hv3;have hs3:w2.heap.size+1≤w3.heap.size:=by have:=hg3.size;simpa using this
   have hk3: ∀k,k<w2.heap.size→w3.heap[k]?=w2.heap[k]?:=fun k hk=>(hg3.block k (by simp;omega) (by simp[Value.ownBlock];omega)).trans (heap_alloc_old _ _ hk);have hbs:B2 s<w2.heap.size:=HD2.o.lt _ (HD2.o.gB _ (ak wE.o));have hbd:bd<w2.heap.size:=HD2.o.lt _ HD2.o.gd;have hne:B2 s≠bd∧B2 s≠bm:=HD2.o.nB _ (ak wE.o);have MZ: ∀k,v3.ownBlock=some k→w2.heap.size≤k:=fun k hk=>ho3.lt k hk;have y0:w3.heap[B2 s]?=some (xK (V2 s) f2):=(hk3 _ hbs).trans (HD2.o.fl _ (ak wE.o));have y1:w3.heap[bd]?=some (kX bm (d.step.made s)):=(hk3 _ hbd).trans HD2.o.blk;have z0:w3.cell? ⟨B2 s,0,none⟩=some (V2 s):=(cell_of_row w3 (B2 s) 0 _ _ (0,0) y0).trans rfl;have z1:w3.cell? ⟨B2 s,1,none⟩=some (.int .i64 f2.lasts):=(cell_of_row w3 (B2 s) 1 _ _ (0,0) y0).trans rfl;have z2:w3.cell? ⟨B2 s,2,none⟩=some (.bool f2.stays):=(cell_of_row w3 (B2 s) 2 _ _ (0,0) y0).trans rfl;have z3:w3.cell? ⟨bd,1,none⟩=some (.int .i64 d.used):=by have:=(cell_of_row w3 bd 1 _ _ (0,0) y1);rw[this];show some (Value.int .i64 d.step.used)=_;rw[d.dI.2]
   have zf: ∀o,w3.frozen? ⟨B2 s,o,none⟩=false:=fun o=>frozen_of_row w3 (B2 s) o _ _ y0;have zd:w3.frozen? ⟨bd,1,none⟩=false:=frozen_of_row w3 bd 1 _ _ y1;have zf0:=zf 0;have zf1:=zf 1;have zf2:=zf 2;have jA:=qS (∀u:Int,u=d.used+((n:Int)-old)→gU w G bd (d.replace s b) (d.bz s b) (.returned (.int .i64 0)) ((((w3.setCell ⟨B2 s,0,none⟩ v3).setCell ⟨B2 s,1,none⟩ (.int .i64 n)).setCell ⟨B2 s,2,none⟩ (.bool true)).setCell ⟨bd,1,none⟩ (.int .i64 u))) (fun u hu=>by
    rw[HE2.o.1,HE2.o.2];have M4:(d.step.made s).files=aL s (d.step.file s) d.step.files:=rfl;generalize hW:(((w3.setCell ⟨B2 s,0,none⟩ v3).setCell ⟨B2 s,1,none⟩ (.int .i64 n)).setCell ⟨B2 s,2,none⟩ (.bool true)).setCell ⟨bd,1,none⟩ (.int .i64 u)=W;have kk: ∀k,k≠bd→k≠B2 s→W.heap[k]?=w3.heap[k]?:=fun k h1 h2=>by rw[←hW,Below.heap_setCell _ _ _ _ h1,Below.heap_setCell _ _ _ _ h2,Below.heap_setCell _ _ _ _ h2,Below.heap_setCell _ _ _ _ h2]
    have hWs:W.heap.size=w3.heap.size:=by rw[←hW];simp[World.setCell]
    have y0':W.heap[B2 s]?=some (xK v3 ⟨b,b.length,true⟩):=by rw[←hW,Below.heap_setCell _ _ _ _ hne.1,ae (ae (ae y0)),hbl];rfl
    have y1':W.heap[bd]?=some (kX bm {d.step.put s ⟨b,b.length,true⟩with used:=d.used+(b.length-(d.file s).data.length)}):=by
     have YV:(((w3.setCell ⟨B2 s,0,none⟩ v3).setCell ⟨B2 s,1,none⟩ (.int .i64 n)).setCell ⟨B2 s,2,none⟩ (.bool true)).heap[bd]?=some (kX bm (d.step.made s)):=by rw[Below.heap_setCell _ _ _ _ (Ne.symm hne.1),Below.heap_setCell _ _ _ _ (Ne.symm hne.1),Below.heap_setCell _ _ _ _ (Ne.symm hne.1)];exact y1
     rw[←hW,ae YV,hu,hbl,←Ja.o];rfl
    have hOk:({d.step.put s ⟨b,b.length,true⟩with used:=d.used+(b.length-(d.file s).data.length)}:Dk).Ok:=by have h1:=Jf.o;refine HO.o.step.put s ⟨b,b.length,true⟩ _ ?_ (by rw[hbl,←Ja.o];exact h1.1) (by rw[d.dI.1];exact h1.2) ⟨by simp,by simp⟩;unfold Dk.file;rw[d.dI.1,d.dI.2];simp;omega
    refine⟨rfl,_,⟨hOk,bm,_,_,HD2.o.set (w':=W) s ⟨b,b.length,true⟩ v3 (B2 s) _ ?_ y1' ?_ y0' ?_ ?_ ?_ (.inl ⟨f2,wE.o,rfl⟩) ?_⟩,?_,?_⟩;·rw[M4,zo HO.o.step.up];rfl
    ·have e:=mD HD2.o.up ⟨b,b.length,true⟩ wE.o (fun t=>(.pointer (some ⟨if t=s then B2 s else B2 t,0,none⟩)));rw[e];have e2:(fun p:List UInt8×Fl=>(p.1,Value.pointer (some ⟨if p.1=s then B2 s else B2 p.1,0,none⟩)))=fun p=>(p.1,.pointer (some ⟨B2 p.1,0,none⟩)):=by
      funext p;split;·next h=>rw[h]
      ·rfl
     rw[e2];exact HD2.o.map.block ((kk bm HD2.o.nm.symm hne.2.symm).trans (hk3 bm (HD2.o.lt _ HD2.o.gm)))
    ·exact(ho3.eU (Nat.zero_le _)).aN fun k hk=>kk k (by have:=MZ k hk;omega) (by have:=MZ k hk;omega)
    ·rw[hWs];omega
    ·intro k hk h1 h2 h3;exact(kk k h1 (h3 f2 wE.o).1).trans (hk3 k (HD2.o.lt k hk))
    ·intro k hk;have:=MZ k hk;exact .inr ⟨this,by omega⟩
    ·rintro k(hk|rfl|hk);·exact(HG2.o k hk).imp id (fun h=>by have:=oI.o;omega)
     ·exact(HG2.o _ (HD2.o.gB _ (ak wE.o))).imp id (fun h=>by have:=oI.o;have h':w1.heap.size≤B2 s:=h;omega)
     ·have:=MZ k hk;right;omega
    ·have hin: ∀k,k<w.heap.size→G2 k→G k:=fun k hk hg=>(HG2.o k hg).elim id (fun h=>by have:=oI.o;omega);have hk4:ah G w w3:=((sD.o.alloc _).trans (ah.bV (F:=fun k=>k=w2.heap.size) hg3 (fun k e=>by simp[Value.ownBlock]at e;exact e.symm)) (fun k hk e=>by omega));rw[←hW];exact((((hk4.setCell (p:=⟨B2 s,0,none⟩) (fun h=>hin _ h (HD2.o.gB _ (ak wE.o))) _).setCell (p:=⟨B2 s,1,none⟩) (fun h=>hin _ h (HD2.o.gB _ (ak wE.o))) _).setCell (p:=⟨B2 s,2,none⟩) (fun h=>hin _ h (HD2.o.gB _ (ak wE.o))) _).setCell (p:=⟨bd,1,none⟩) (fun h=>hin _ h HD2.o.gd) _));obtain⟨A3,c3,e3⟩:=ho3.form;have hne':bd≠B2 s:=Ne.symm hne.1;clear ho3 hg3 hv3 hk3 hbs hbd hne MZ y0 y1 zf HB2;generalize b.length=n3 at e3;subst e3;have hw2:wrap64 (d.used+((n:Int)-old))=d.used+((n:Int)-old):=by unfold wrap64;omega
   have hw3:wrap64 (d.used+(n:Int))=d.used+(n:Int):=by unfold wrap64;omega
   go_wp2;go_ret;exact jA.o _ (by first|rfl|omega)
 ·have qP:=qH (jr w G bd bm d B V HH.o s);have hE:=Dk.PU (b:=b) h0;have HR:=qS (gU w G bd (d.replace s b) (d.bz s b) (.returned (.int .i64 (d.asked s))) w) (⟨by rw[hE.2],by rw[hE.1];exact Ht.refl HI.o⟩);clear hE;generalize d.asked s=q at*;go_enter Tryz.func72,Tryz.ntmps72;go_wp2_with fail;refine qP.o.mono ?_;rintro e w0⟨rfl,rfl⟩;go_wp2;go_ret;exact HR.o
end Go.Proofs.YtladegonienapaaGreatDoor
