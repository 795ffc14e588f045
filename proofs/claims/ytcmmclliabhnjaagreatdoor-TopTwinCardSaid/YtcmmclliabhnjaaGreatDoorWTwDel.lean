/-
  maps.DeleteFunc at a map from identities to events.
-/
import Derived.Test.YtcmmclliabhnjaaGreatDoorWMapL
import Derived.Test.YtcmmclliabhnjaaGreatDoorWTwPl
import Derived.DeepKeys4
import Derived.Maps.RangeWalk
set_option maxRecDepth 100000
set_option maxHeartbeats 16000000
namespace Go.Proofs.YtcmmclliabhnjaaGreatDoor
open Go.RowKit Go.Maps Go.Sort
def twV(s:List UInt8)(n:Int):Value:=.agg #[.string ⟨s.toArray⟩,.int .i64 n]
def twLit(s:List UInt8)(n:Int):Lit:=.string (keyBytes [.string s,.int .i64 n])
def twOk(s:List UInt8)(n:Int):Prop:=s.length≤1000000000∧ -9223372036854775808≤n∧n≤9223372036854775807
theorem tw_laid:laidOutB Tryz.prog=true:=by kernel_rfl
theorem tw_row:(102:TypeId)<Tryz.prog.types.size:=of_decide_eq_true (by kernel_rfl)
theorem tw_wide:(match Tryz.prog.underlying 102 with|some (.array _ _)|some (.struct _)=>true|_=>false)=true:=by rw[Tryz.underlying102]
theorem tw_kt:Tryz.prog.keyTypeAt 2 102=true:=by kernel_rfl
theorem keyTw:Keyed Tryz.prog 102:=Keyed.of_law (deep_law_laid tw_laid (m:=2) (by omega) tw_row tw_kt tw_wide)
theorem tw_type:Tryz.prog.keyType 102=true:=by kernel_rfl
theorem tw_cells:Tryz.prog.cellsOf 102=2:=by kernel_rfl
theorem tw_cells_s:Tryz.prog.cellsOf 9=1:=by kernel_rfl
theorem tw_cells_i:Tryz.prog.cellsOf 3=1:=by kernel_rfl
theorem tw_size: ∃k,Tryz.prog.types.size=k+1:=⟨Tryz.prog.types.size-1,by kernel_rfl⟩
theorem tw_key(s:List UInt8)(n:Int)(h:twOk s n):keyOf Tryz.prog 102 (twV s n)=some (twLit s n):=by
 obtain⟨h1,h2,h3⟩:=h;obtain⟨k,hk⟩:=tw_size;have hs:(⟨s.toArray⟩:ByteArray).size≤maxLen:=by simp[ByteArray.size];unfold maxLen;omega
 have hw:(Lit.int .i64 n).wf=true:=by simp[Lit.wf,IntKind.min,IntKind.max,IntKind.bits,IntKind.signed];omega
 have hlits: ∀d,Tryz.prog.keyLits (d+2) 102 [.string ⟨s.toArray⟩,.int .i64 n]=some [.string s,.int .i64 n]:=fun d=>by simp[Program.keyLits,Tryz.underlying102,Tryz.underlying9,Tryz.underlying3,tw_cells,tw_cells_s,tw_cells_i,hs,hw]
 unfold keyOf twV twLit;rw[Tryz.underlying102,hk];simp only[tw_type,Value.formed,Tryz.underlying102,tw_cells];simp[Value.cells,hlits]
theorem twLit_inj{s s':List UInt8}{n n':Int}(h:twOk s n)(h':twOk s' n')(e:twLit s n=twLit s' n'):s=s'∧n=n':=by have:=keyTw.inj (tw_key s n h) (by rw[e];exact tw_key s' n' h');unfold twV at this;simpa using this
theorem tw_str{v:Value}{kl:Lit}(h:keyOf Tryz.prog 102 v=some kl): ∃k,kl=.string k:=by
 unfold keyOf at h;rw[Tryz.underlying102]at h;simp only at h;split at h;·obtain⟨ls,_,rfl⟩:=Option.map_eq_some_iff.1 h;exact⟨_,rfl⟩
 ·cases h
/-!### a row by the bytes of its keys -/
def MapI(w:World)(b:Nat)(m:Row Value):Prop:=w.ownsMap Tryz.prog 102 raw b m.length (mapD m)
theorem MapI.of{w:World}{b n:Nat}{m:Row Value}(h:w.ownsMap Tryz.prog 102 raw b n (mapD m)):MapI w b m:=by
 obtain⟨es,clock,h1,h2,h3,h4⟩:=h;refine⟨es,clock,h1,h2,?_,h4⟩;have:(m.map fun p=>((Lit.string p.1,DataW.held p.2):Lit×DataW Value)).length=es.size:=by have:=congrArg Maps.size h4;simp only[mapD,Maps.size,length_sorted]at this;simpa using this
 rw[List.length_map]at this;omega
theorem MapI.made(w:World):MapI (w.alloc (.map #[] 0)) w.heap.size []:=World.ownsMap_made _ _ _ _
def kbI(s:List UInt8)(n:Int):List UInt8:=keyBytes [.string s,.int .i64 n]
theorem kbI_inj{s s':List UInt8}{n n':Int}(h:twOk s n)(h':twOk s' n')(e:kbI s n=kbI s' n'):s=s'∧n=n':=twLit_inj h h' (by unfold twLit;unfold kbI at e;rw[e])
section
variable{w w':World}{b:Nat}{m:Row Value}
theorem MapI.lt(h:MapI w b m):b<w.heap.size:=World.ownsMap.lt h
theorem MapI.block(h:MapI w b m)(hb:w'.heap[b]?=w.heap[b]?):MapI w' b m:=by obtain⟨es,clock,h1,h2⟩:=h;exact⟨es,clock,hb.trans h1,h2⟩
theorem MapI.put(h:MapI w b m)(hn:m.length<maxLen)(s:List UInt8)(n:Int)(hk:twOk s n)(t e:TypeId)(ht:Tryz.prog.underlying t=some (.map 102 e))(v:Value): ∃w',(Instr.mapUpdate t (.map (some b)) (twV s n) v).run Tryz.prog w=.ok () w'∧MapI w' b (putB (kbI s n) v m)∧w.grownBy w' (some b):=by obtain⟨w',hr,r1,r2⟩:=World.ownsMap.update h keyTw ht hn (tw_key s n hk) (val:=v) (d:=.held v) (ps:=[]) rfl;rw[show twLit s n=.string (kbI s n)from rfl,mapD_put]at r1;exact⟨w',hr,MapI.of r1,r2⟩
end
/-!### ranging -/
def MapIR(w:World)(b r:Nat)(m:Row Value)(todo:List UInt8→Bool)(cnt:Nat):Prop:= ∃n left,w.ranges Tryz.prog 102 raw b r n (mapD m) left cnt∧ ∀k,left (.string k)=todo k
section
variable{w w':World}{b r:Nat}{m:Row Value}{todo:List UInt8→Bool}{cnt:Nat}
theorem MapIR.map(h:MapIR w b r m todo cnt):MapI w b m:=by obtain⟨n,left,h1,_⟩:=h;exact MapI.of h1.owns
theorem MapIR.left_eq(h:MapIR w b r m todo cnt):w.rangeLeft b r=cnt:=by obtain⟨n,left,h1,_⟩:=h;exact h1.left_eq
theorem MapIR.up(h:MapIR w b r m todo cnt)(hb:Below w.heap.size w w'):MapIR w' b r m todo cnt:=by obtain⟨n,left,h1,h2⟩:=h;exact⟨n,left,h1.kept (row:=none) ⟨hb.os,hb.tape,hb.output,hb.size,fun i hi _=>hb.block i hi⟩ (by simp) (by simp),h2⟩
end
theorem wpList_range_I(w:World){ops:Array Oper}{rest:List Oper}{o:Oper}{a:Act}{Q:Exit→Act→World→Prop}(hg:o.guard=none)(mm:Operand)(t e:TypeId)(hop:o.op=Op.range t mm)(ht:Tryz.prog.underlying t=some (.map 102 e))(b:Nat)(m:Row Value)(hm:a.eval mm=.map (some b))(hown:MapI w b m)(hK: ∀w',MapIR w' b w.heap.size m (fun k=>(getB m k).isSome) m.length→w.grownBy w' none→w'.heap.size=w.heap.size+1→wpList Tryz.prog ops Q rest (a.put o.dst (.pointer (some ⟨w.heap.size,0,none⟩))) w'):wpList Tryz.prog ops Q (o::rest) a w:=by
 refine wpList_range_own w hg mm t hop 102 e keyTw ht raw b m.length (mapD m) hm hown ?_;intro w' h1 h2 h3;refine hK w' ⟨m.length,_,?_,fun k=>mapD_has m k⟩ h2 h3;have e:Maps.size (mapD m)=m.length:=by simp[mapD,Maps.size]
 rw[e]at h1;exact h1
theorem wpList_next_I(w:World){ops:Array Oper}{rest:List Oper}{o:Oper}{a:Act}{Q:Exit→Act→World→Prop}(hg:o.guard=none)(it:Operand)(hop:o.op=Op.next it false)(b r:Nat)(m:Row Value)(todo:List UInt8→Bool)(cnt:Nat)(hit:a.eval it=.pointer (some ⟨r,0,none⟩))(h:MapIR w b r m todo cnt)(hkeys: ∀p∈m,∃s n,twOk s n∧p.1=kbI s n)(hDone:(∀k,todo k=false)→wpList Tryz.prog ops Q rest (a.put o.dst (.tuple #[.bool false])) w)(hMore: ∀(s:List UInt8)(n:Int)(v:Value)(w':World)(cnt':Nat),twOk s n→todo (kbI s n)=true→getB m (kbI s n)=some v→MapIR w' b r m (fun x=>todo x&&!(x==kbI s n)) cnt'→cnt'<cnt→w.grownBy w' (some r)→w'.heap.size=w.heap.size→(Instr.entry (.pointer (some ⟨r,0,none⟩))).run Tryz.prog w'=.ok (.tuple #[twV s n,v]) w'→wpList Tryz.prog ops Q rest (a.put o.dst (.tuple #[.bool true,twV s n,v])) w'):wpList Tryz.prog ops Q (o::rest) a w:=by
 obtain⟨n0,left,h1,h2⟩:=h;refine wpList_next_ranges w hg it hop 102 keyTw raw (id:Value→Value) id (fun key kl _=>⟨key,rfl⟩) (fun v y _=>⟨v,rfl⟩) b r n0 (mapD m) left cnt hit h1 (fun _ hl=>hDone fun k=>by rw[←h2];exact hl _) ?_;intro x c kl y w' cnt' hkey hlk hv hat hrg hlt hgr hsz hen;obtain⟨k,rfl⟩:=tw_str hkey;have hy:y=(.held c,[]):=by have:=hv;simp only[raw,id,Option.some.injEq]at this;exact this.symm
 subst hy;have hg2:getB m k=some c:=mapD_at_some (hat .nil);obtain⟨s,n,hok,hkk⟩:=hkeys _ (getB_mem hg2);have hkk:k=kbI s n:=hkk;subst hkk;have hx:x=twV s n:=keyTw.inj hkey (tw_key s n hok);subst hx;exact hMore s n c w' cnt' hok (by rw[←h2];exact hlk) hg2 ⟨n0,_,hrg,fun k=>by show(left (.string k)&&!(k==kbI s n))=_;rw[h2]⟩ hlt hgr hsz hen
/-!### events by their identities -/
structure EvRow(l:List Ev)(m:Row Value):Prop where
 ids:(l.map idOf).Nodup
 ok: ∀e∈l,twOk e.src e.num
 get: ∀s n,twOk s n→getB m (kbI s n)=(l.find? fun e=>decide (idOf e=(s,n))).map Ev.agg
 key: ∀p∈m,∃e∈l,p.1=kbI e.src e.num
 up:RowUp m
theorem EvRow.nil:EvRow [] []:=⟨by simp,by simp,fun s n _=>by simp[getB],by simp,List.Pairwise.nil⟩
theorem find_id{l:List Ev}(h:(l.map idOf).Nodup){e:Ev}(he:e∈l):(l.find? fun x=>decide (idOf x=(e.src,e.num)))=some e:=by
 induction l with
  |nil=>cases he
  |cons o l ih=>
   rw[List.map_cons,List.nodup_cons]at h;rcases List.mem_cons.1 he with rfl|he;·rw[List.find?_cons_of_pos (by simp[idOf])]
   ·rw[List.find?_cons_of_neg (by simp only[decide_eq_true_eq];exact fun e'=>h.1 (e'▸List.mem_map.2 ⟨e,he,rfl⟩))];exact ih h.2 he
theorem find_none{l:List Ev}{s:List UInt8}{n:Int}(h:(s,n)∉l.map idOf):(l.find? fun x=>decide (idOf x=(s,n)))=none:=by rw[List.find?_eq_none];intro x hx;simp only[decide_eq_true_eq];exact fun e=>h (e▸List.mem_map.2 ⟨x,hx,rfl⟩)
theorem EvRow.mem{l:List Ev}{m:Row Value}(h:EvRow l m){e:Ev}(he:e∈l):getB m (kbI e.src e.num)=some e.agg:=by rw[h.get _ _ (h.ok e he),find_id h.ids he];rfl
theorem EvRow.put{l l':List Ev}{m:Row Value}(h:EvRow l m){e:Ev}(hok:twOk e.src e.num)(hids:(l'.map idOf).Nodup)(hm: ∀x,x∈l'↔x=e∨(x∈l∧idOf x≠idOf e)):EvRow l' (putB (kbI e.src e.num) e.agg m):=by
 have he:e∈l':=(hm e).2 (.inl rfl);refine⟨hids,fun x hx=>?_,fun s n hk=>?_,fun p hp=>?_,putB_rising h.up _ _⟩
 ·rcases(hm x).1 hx with rfl|⟨hx,_⟩;·exact hok
  ·exact h.ok x hx
 ·by_cases hsn:(s,n)=idOf e
  ·obtain⟨rfl,rfl⟩:s=e.src∧n=e.num:=by unfold idOf at hsn;simpa using hsn
   rw[getB_put_same,find_id hids he];rfl
  ·rw[getB_put_other _ _ (fun e'=>hsn (by obtain⟨rfl,rfl⟩:=kbI_inj hk hok e';rfl)),h.get s n hk];congr 1;by_cases hin:(s,n)∈l.map idOf
   ·obtain⟨x,hx,hxe⟩:=List.mem_map.1 hin;have hxs:x.src=s∧x.num=n:=by unfold idOf at hxe;simpa using hxe
    obtain⟨rfl,rfl⟩:=hxs;rw[find_id h.ids hx,find_id hids ((hm x).2 (.inr ⟨hx,fun e'=>hsn (by rw[←e'];rfl)⟩))]
   ·rw[find_none hin,find_none];intro hin';obtain⟨x,hx,hxe⟩:=List.mem_map.1 hin';rcases(hm x).1 hx with rfl|⟨hx,_⟩;·exact hsn hxe.symm
    ·exact hin (List.mem_map.2 ⟨x,hx,hxe⟩)
 ·rcases putB_mem.1 hp with rfl|⟨hp,hne⟩;·exact⟨e,he,rfl⟩
  ·obtain⟨x,hx,hxe⟩:=h.key p hp;refine⟨x,(hm x).2 (.inr ⟨hx,fun e'=>hne ?_⟩),hxe⟩;unfold idOf at e';injection e' with e1 e2;rw[hxe,e1,e2]
theorem upE_stay{bt:Ev→Ev→Bool}{e o:Ev}: ∀{l:List Ev},(l.map idOf).Nodup→o∈l→idOf o=idOf e→bt e o=false→upE bt e l=l
 |[],_,h,_,_=>by cases h
 |a::l,hn,h,hi,hb=>by
  rw[List.map_cons,List.nodup_cons]at hn;unfold upE;rcases List.mem_cons.1 h with rfl|h;·rw[if_pos hi,if_neg (by rw[hb];decide)]
  ·rw[if_neg (fun e'=>hn.1 (by rw[e',←hi];exact List.mem_map.2 ⟨o,h,rfl⟩)),upE_stay hn.2 h hi hb]
theorem upE_in{bt:Ev→Ev→Bool}{e:Ev}: ∀{l:List Ev},(l.map idOf).Nodup→(∀o∈l,idOf o=idOf e→bt e o=true)→ ∀x,x∈upE bt e l↔x=e∨(x∈l∧idOf x≠idOf e)
 |[],_,_,x=>by simp[upE]
 |a::l,hn,h,x=>by
  rw[List.map_cons,List.nodup_cons]at hn;unfold upE;by_cases ha:idOf a=idOf e
  ·rw[if_pos ha,if_pos (h a (by simp) ha),List.mem_cons];constructor
   ·rintro(hx|hx);·exact .inl hx
    ·exact .inr ⟨List.mem_cons_of_mem _ hx,fun e'=>hn.1 (by rw[ha,←e'];exact List.mem_map.2 ⟨x,hx,rfl⟩)⟩
   ·rintro(hx|⟨hx,hne⟩);·exact .inl hx
    ·rcases List.mem_cons.1 hx with rfl|hx;·exact absurd ha hne
     ·exact .inr hx
  ·rw[if_neg ha,List.mem_cons,upE_in hn.2 (fun o ho=>h o (List.mem_cons_of_mem _ ho)) x,List.mem_cons];constructor
   ·rintro(rfl|hx|⟨hx,hne⟩);·exact .inr ⟨.inl rfl,ha⟩
    ·exact .inl hx
    ·exact .inr ⟨.inr hx,hne⟩
   ·rintro(hx|⟨rfl|hx,hne⟩);·exact .inr (.inl hx)
    ·exact .inl rfl
    ·exact .inr (.inr ⟨hx,hne⟩)
theorem EvRow.up_put{bt:Ev→Ev→Bool}{l:List Ev}{m:Row Value}(h:EvRow l m){e:Ev}(hok:twOk e.src e.num)(hb: ∀o∈l,idOf o=idOf e→bt e o=true):EvRow (upE bt e l) (putB (kbI e.src e.num) e.agg m):=by
 refine h.put hok ?_ (upE_in h.ids hb);rw[upE_ids];split;·exact h.ids
 ·rename_i hm;rw[List.nodup_append];exact⟨h.ids,by simp,fun a ha b hb=>by rw[List.mem_singleton.1 hb];exact fun e'=>hm (e'▸ha)⟩
theorem MapI.look2{w:World}{b:Nat}{m:Row Value}(h:MapI w b m)(s:List UInt8)(n:Int)(hk:twOk s n)(t e:TypeId)(ht:Tryz.prog.underlying t=some (.map 102 e))(z:Value)(hz:(zeroValue e).run Tryz.prog w=.ok z w):(Instr.lookup t (.map (some b)) (twV s n) true).run Tryz.prog w=.ok (.tuple #[(getB m (kbI s n)).getD z,.bool (getB m (kbI s n)).isSome]) w:=by obtain⟨v,ps,hr,hv⟩:=World.ownsMap.look_ok h keyTw ht hz (zd:=.held z) (zp:=[]) rfl (tw_key s n hk);rw[show twLit s n=.string (kbI s n)from rfl,mapD_at]at hv;rw[hr,show twLit s n=.string (kbI s n)from rfl,mapD_has];simp only[raw,Option.some.injEq,Prod.mk.injEq,DataW.held.injEq]at hv;rw[hv.1]
theorem wpList_mapI_put{ops:Array Oper}{rest:List Oper}{o:Oper}{a:Act}{Q:Exit→Act→World→Prop}{w:World}(hg:o.guard=none)(m x v:Operand)(t e:TypeId)(hop:o.op=Op.mapUpdate t m x v)(ht:Tryz.prog.underlying t=some (.map 102 e))(b:Nat)(M:Row Value)(hm:a.eval m=.map (some b))(hown:MapI w b M)(hn:M.length<maxLen)(s:List UInt8)(n:Int)(hx:a.eval x=twV s n)(hk:twOk s n)(u:Value)(hv:a.eval v=u)(h: ∀w',MapI w' b (putB (kbI s n) u M)→w.grownBy w' (some b)→wpList Tryz.prog ops Q rest (a.put o.dst undef) w'):wpList Tryz.prog ops Q (o::rest) a w:=by refine wpList_plain hg fun K hK=>?_;obtain⟨w',hr,h1,h2⟩:=hown.put hn s n hk t e ht u;unfold Oper.wp;simp[execOp,hop,hm,hx,hv,hr,Result.andThen];exact hK _ _ (h w' h1 h2)
theorem mapD_del(m:Row Value)(k:List UInt8):(mapD m).del (.string k)=mapD (m.filter fun p=>!(p.1==k)):=by unfold mapD DataW.del;simp only[List.filter_map];rfl
theorem EvRow.del{l:List Ev}{m:Row Value}(h:EvRow l m){e:Ev}(he:e∈l):EvRow (l.filter fun x=>!decide (idOf x=idOf e)) (m.filter fun p=>!(p.1==kbI e.src e.num)):=by
 have hoke:=h.ok e he;refine⟨(List.filter_sublist.map idOf).nodup h.ids,fun x hx=>h.ok x (List.mem_filter.1 hx).1,fun s n hk=>?_,fun p hp=>?_,h.up.sublist List.filter_sublist⟩
 ·by_cases hsn:(s,n)=idOf e
  ·obtain⟨rfl,rfl⟩:s=e.src∧n=e.num:=by unfold idOf at hsn;simpa using hsn
   have h1:(l.filter fun x=>!decide (idOf x=idOf e)).find? (fun x=>decide (idOf x=(e.src,e.num)))=none:=by refine find_none fun hin=>?_;obtain⟨x,hx,hxe⟩:=List.mem_map.1 hin;have:=(List.mem_filter.1 hx).2;simp only[Bool.not_eq_true',decide_eq_false_iff_not]at this;exact this hxe
   rw[h1];unfold getB;rw[List.find?_eq_none.2 (fun p hp=>by have:=(List.mem_filter.1 hp).2;simpa using this)];rfl
  ·have h1:(l.filter fun x=>!decide (idOf x=idOf e)).find? (fun x=>decide (idOf x=(s,n)))=l.find? fun x=>decide (idOf x=(s,n)):=by
    rw[List.find?_filter];congr 1;funext x;by_cases hx:idOf x=(s,n);·simp[hx,hsn]
    ·simp[hx]
   rw[h1,←h.get s n hk];unfold getB;rw[List.find?_filter];congr 2;funext p;by_cases hp:p.1=kbI s n;·have hne: ¬kbI s n=kbI e.src e.num:=fun e'=>hsn (by obtain⟨rfl,rfl⟩:=kbI_inj hk hoke e';rfl);simp[hp,hne]
   ·simp[hp]
 ·obtain⟨hp1,hp2⟩:=List.mem_filter.1 hp;obtain⟨x,hx,hxe⟩:=h.key p hp1;refine⟨x,List.mem_filter.2 ⟨hx,?_⟩,hxe⟩;simp only[Bool.not_eq_true',decide_eq_false_iff_not];intro e';unfold idOf at e';injection e' with e1 e2;rw[hxe,e1,e2]at hp2;simp at hp2
def delL(l:List Ev)(pr:Ev→Bool)(todo:List UInt8→Bool):List Ev:=l.filter fun e=>!(pr e&&!todo (kbI e.src e.num))
structure TwDelIn(w wr:World)(b:Nat)(l:List Ev)(pr:Ev→Bool)(M0 M:Row Value)(todo:List UInt8→Bool)(cnt:Nat):Prop where
 rng:MapIR wr b w.heap.size M todo cnt
 row:EvRow (delL l pr todo) M
 all: ∀e∈l,todo (kbI e.src e.num)=true→e∈delL l pr todo
 siz:M.length≤M0.length
 keep:Keep (fun k=>k=b) w wr
def TwDelRel(w:World)(b:Nat)(l:List Ev)(pr:Ev→Bool)(M0:Row Value)(wr:World):Prop:= ∃M todo cnt,TwDelIn w wr b l pr M0 M todo cnt
def TwDelPost(w:World)(b:Nat)(l:List Ev)(pr:Ev→Bool)(M0:Row Value)(r:Ending)(w':World):Prop:=r=.returned (.tuple #[])∧ ∃M,MapI w' b M∧EvRow (l.filter fun e=>!pr e) M∧M.length≤M0.length∧Keep (fun k=>k=b) w w'
theorem delL_step{l:List Ev}{pr:Ev→Bool}{todo:List UInt8→Bool}(hok: ∀e∈l,twOk e.src e.num){e:Ev}(he:e∈l)(hi:(l.map idOf).Nodup)(ht:todo (kbI e.src e.num)=true):delL l pr (fun x=>todo x&&!(x==kbI e.src e.num))=if pr e then(delL l pr todo).filter (fun x=>!decide (idOf x=idOf e))else delL l pr todo:=by
 have hsame: ∀x∈l,kbI x.src x.num=kbI e.src e.num→x=e:=fun x hx h=>by obtain⟨h1,h2⟩:=kbI_inj (hok x hx) (hok e he) h;exact ids_inj hi hx he (by unfold idOf;rw[h1,h2])
 by_cases hp:pr e=true
 ·rw[if_pos hp];unfold delL;rw[List.filter_filter];refine List.filter_congr fun x hx=>?_;by_cases hk:kbI x.src x.num=kbI e.src e.num;·have:=hsame x hx hk;subst this;simp[hp]
  ·have hne: ¬idOf x=idOf e:=fun e'=>hk (by unfold idOf at e';injection e' with e1 e2;rw[e1,e2]);have hkb:(kbI x.src x.num==kbI e.src e.num)=false:=by simpa using hk
   simp[hkb,hne]
 ·rw[if_neg hp];unfold delL;refine List.filter_congr fun x hx=>?_;by_cases hk:kbI x.src x.num=kbI e.src e.num;·have:=hsame x hx hk;subst this;simp[hp]
  ·have hkb:(kbI x.src x.num==kbI e.src e.num)=false:=by simpa using hk
   simp[hkb]
theorem wpList_delete_I{ops:Array Oper}{rest:List Oper}{o:Oper}{a:Act}{Q:Exit→Act→World→Prop}{w:World}(hg:o.guard=none)(m x:Operand)(t e:TypeId)(hop:o.op=Op.call {callee:=Callee.builtin Builtin.delete,args:= #[m,x],argTypes:= #[t,102]})(ht:Tryz.prog.underlying t=some (.map 102 e))(b r:Nat)(M:Row Value)(todo:List UInt8→Bool)(cnt:Nat)(hm:a.eval m=.map (some b))(h:MapIR w b r M todo cnt)(s:List UInt8)(n:Int)(hk:twOk s n)(hx:a.eval x=twV s n)(hK: ∀w' cnt',MapIR w' b r (M.filter fun p=>!(p.1==kbI s n)) (fun z=>todo z&&!(z==kbI s n)) cnt'→cnt'≤cnt→w.grownBy w' (some b)→wpList Tryz.prog ops Q rest (a.put o.dst (.tuple #[])) w'):wpList Tryz.prog ops Q (o::rest) a w:=by
 obtain⟨n0,left,h1,h2⟩:=h;refine wpList_delete_ranges w hg m x t 102 hop e keyTw ht raw b r n0 (mapD M) left cnt hm h1 (twV s n) (twLit s n) hx (tw_key s n hk) ?_;intro w' cnt' hr hc htu;refine hK w' cnt' ⟨n0,fun z=>left z&&!z.sameKey (twLit s n),?_,fun k=>?_⟩ hc ?_;·rw[show twLit s n=.string (kbI s n)from rfl,mapD_del]at hr;exact hr
 ·show(left (.string k)&&!(k==kbI s n))=_;rw[h2]
 ·obtain⟨es,clock,es',clock',hb,rfl⟩:=htu;refine⟨rfl,rfl,rfl,by simp[Go.ChangeMaps.setBlock],fun k hk hne=>?_⟩;simp only[Go.ChangeMaps.setBlock];rw[Array.getElem?_setIfInBounds];rw[if_neg (fun e=>hne (by rw[e]))]
theorem delf_any(w:World)(b:Nat)(M0:Row Value)(l:List Ev)(hm:MapI w b M0)(hr:EvRow l M0)(g:FuncId)(caps:Array Value)(pr:Ev→Bool)(hcf: ∀(args:Array Value)(W:World),(callFunc g args).run Tryz.prog W=.ok (.enter g args) W)(hcall: ∀W,Keep (fun k=>k=b) w W→ ∀e∈l,Calls Tryz.prog g (#[.agg #[.string ⟨e.src.toArray⟩,.int .i64 e.num],e.agg]++caps) W (fun r w'=>r=.returned (.bool (pr e))∧Below W.heap.size W w')):Calls Tryz.prog 44 #[.map (some b),.func (.func g) #[] caps] w (TwDelPost w b l pr M0):=by
 have HR:=qH hr;have HCF:=qH hcf;have HCA:=qH hcall;have HM:=qH hm;have hbl:=hm.lt;clear hr hcall hm;go_enter Tryz.func44,Tryz.ntmps44;go_wp2_with(at_range;refine wpList_range_I _ rfl _ _ _ rfl Tryz.underlying98 b M0 rfl HM.out ?_);intro w1 hrg1 hgr1 hsz1;have HST:=qH (show TwDelRel w b l pr M0 w1 from by
  refine⟨M0,_,_,hrg1,?_,?_,Nat.le_refl _,Keep.of_grown (F:=fun k=>k=b) hgr1 (fun k e=>by cases e)⟩
  ·have:delL l pr (fun k=>(getB M0 k).isSome)=l:=by unfold delL;refine List.filter_eq_self.2 fun e he=>?_;have h1:=HR.out.mem he;simp[h1]
   rw[this];exact HR.out
  ·intro e he _;refine List.mem_filter.2 ⟨he,?_⟩;have h1:=HR.out.mem he;simp[h1]);clear hrg1 hgr1;go_wp2;go_loopw[](fun wr=>TwDelRel w b l pr M0 wr)(fun wr=>wr.rangeLeft b w.heap.size);case atStart=>exact HST.out
 case round=>
  obtain⟨M,todo,cnt,hin⟩:=hrel;have HIN:=qH hin;have hcn:=hin.rng.left_eq;clear hin;go_wp2_with(at_next;refine wpList_next_I _ rfl _ rfl b w.heap.size M todo cnt rfl HIN.out.rng (fun p hp=>by obtain⟨e,he,hpe⟩:=HIN.out.row.key p hp;exact⟨e.src,e.num,HIN.out.row.ok e he,hpe⟩) ?_ ?_)
  ·intro hdone;have HF:=qH (show TwDelPost w b l pr M0 (.returned (.tuple #[])) wr from⟨rfl,M,HIN.out.rng.map,by
    have h:=HIN.out.row;have e1:delL l pr todo=l.filter (fun e=>!pr e):=List.filter_congr fun x _=>by rw[hdone];simp
    rw[e1]at h;exact h,HIN.out.siz,HIN.out.keep⟩);clear hdone;go_wp2;go_end0;exact HF.out
  ·intro s n v w1 cnt1 hok htk hget hrg1 hlt1 hgr hsz2 hen;have hgt:=HIN.out.row.get s n hok;rw[hget]at hgt;cases hf:(delL l pr todo).find? (fun x=>decide (idOf x=(s,n)))with
    |none=>rw[hf]at hgt;cases hgt
    |some e=>
     rw[hf]at hgt;have hv:v=e.agg:=Option.some.inj hgt;have heL:=List.mem_of_find?_eq_some hf;have hid:idOf e=(s,n):=by have:=List.find?_some hf;simpa using this
     obtain⟨rfl,rfl⟩:e.src=s∧e.num=n:=by unfold idOf at hid;simpa using hid
     subst hv;have hel:e∈l:=(List.mem_filter.1 heL).1;have HSTEP:=qH (delL_step (pr:=pr) HR.out.ok hel HR.out.ids htk);have HEL:=qH heL;have HRG:=qH hrg1;have HLT:=qH hlt1;have HOK:=qH hok;have HK1:=qH (show Keep (fun k=>k=b) w w1 from HIN.out.keep.trans (Keep.of_grown (F:=fun k=>k=w.heap.size) hgr (fun k e=>by injection e with e;exact e.symm)) (fun k hk e=>by omega));have hbb:Below w1.heap.size w1 ((w1.alloc (.cells #[.string ⟨e.src.toArray⟩,.int .i64 e.num] 102)).alloc (evObj e)):=((Below.refl _ _).alloc (Nat.le_refl _) _).alloc (by simp) _;have HC:=qH (HCA.out _ (HK1.out.trans (Keep.of_below (F:=fun _=>False) hbb) (fun _ _ h=>h.elim)) e hel);have HBB:=qH hbb;unfold twV Ev.agg at hen;clear hget hgt hf hid heL hok htk hrg1 hlt1 hbb;go_wp2_with fail;refine HC.out.mono ?_;rintro r w5⟨rfl,hb5⟩;have hB5:=HBB.out.trans (hb5.mono HBB.out.size);have RG5:=qH (HRG.out.up hB5);have K5:=qH (show Keep (fun k=>k=b) w w5 from HK1.out.trans (Keep.of_below (F:=fun _=>False) hB5) (fun _ _ h=>h.elim));have hi0:=heap_alloc_new w1 (.cells #[.string ⟨e.src.toArray⟩,.int .i64 e.num] 102);have hi1:=(hb5.block w1.heap.size (by simp;omega)).trans ((heap_alloc_old (w1.alloc (.cells #[.string ⟨e.src.toArray⟩,.int .i64 e.num] 102)) (evObj e) (by simp)).trans hi0);rw[hsz2]at hi1;have i0:w5.cell? ⟨wr.heap.size,0,none⟩=some (.string ⟨e.src.toArray⟩):=(cell_of_row _ _ 0 _ _ (0,0) hi1).trans rfl;have i1:w5.cell? ⟨wr.heap.size,1,none⟩=some (.int .i64 e.num):=(cell_of_row _ _ 1 _ _ (0,0) hi1).trans rfl;clear hb5 hB5 hi0 hi1 HC HBB hen;cases hp:pr e
     ·have HRL:=qH (show TwDelRel w b l pr M0 w5∧w5.rangeLeft b w.heap.size<wr.rangeLeft b w.heap.size from⟨⟨M,_,cnt1,RG5.out,by have h:=HSTEP.out;rw[hp,if_neg (by decide)]at h;rw[h];exact HIN.out.row,fun x hx h=>List.mem_filter.2 ⟨hx,by simp only[h,Bool.not_true,Bool.and_false,Bool.not_false]⟩,HIN.out.siz,K5.out⟩,by rw[hcn,RG5.out.left_eq];exact HLT.out⟩);clear hcn;go_wp2;go_roundw;case rel=>first|exact HRL.out.1|((repeat apply Exists.intro);exact⟨HRL.out.1,rfl⟩)
      case measure=>exact HRL.out.2
     ·go_wp2_with(refine wpList_delete_I rfl (.tmp 17) (.tmp 18) 98 74 rfl Tryz.underlying98 b w.heap.size M _ cnt1 rfl RG5.out e.src e.num HOK.out rfl ?_;intro w8 cnt8 hr8 hc8 hg8);have hfun:(fun z=>(todo z&&!(z==kbI e.src e.num))&&!(z==kbI e.src e.num))=fun z=>todo z&&!(z==kbI e.src e.num):=by funext z;cases todo z<;>cases(z==kbI e.src e.num)<;>rfl
      rw[hfun]at hr8;have HRL:=qH (show TwDelRel w b l pr M0 w8∧w8.rangeLeft b w.heap.size<wr.rangeLeft b w.heap.size from⟨⟨_,_,cnt8,hr8,by have h:=HSTEP.out;rw[hp,if_pos rfl]at h;rw[h];exact HIN.out.row.del HEL.out,fun x hx h=>List.mem_filter.2 ⟨hx,by simp only[h,Bool.not_true,Bool.and_false,Bool.not_false]⟩,Nat.le_trans (List.length_filter_le _ _) HIN.out.siz,K5.out.trans (Keep.of_grown (F:=fun k=>k=b) hg8 (fun k e=>by injection e with e;exact e.symm)) (fun _ _ h=>h)⟩,by rw[hcn,hr8.left_eq];have:=HLT.out;omega⟩);clear hr8 hc8 hg8 hfun hcn;go_wp2;go_roundw;case rel=>first|exact HRL.out.1|((repeat apply Exists.intro);exact⟨HRL.out.1,rfl⟩)
      case measure=>exact HRL.out.2
end Go.Proofs.YtcmmclliabhnjaaGreatDoor
