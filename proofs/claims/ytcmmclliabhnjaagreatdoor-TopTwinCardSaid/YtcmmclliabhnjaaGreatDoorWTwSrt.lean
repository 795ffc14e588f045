/-
  Layer 48: sorted: the events of a map from identities, in the order.
-/
import Derived.Test.YtcmmclliabhnjaaGreatDoorWTwDel
import Derived.Test.YtcmmclliabhnjaaGreatDoorWSets
import Derived.RangeFuncNested
import Derived.RangeFuncLeaves
import Derived.Shelf.Abstract
import Derived.WalkKit
import Derived.OwnWalkIn
import Derived.TacticsInMore
import Derived.LoopNIn
import Derived.LoopIn
import Derived.Sort.MapsRangeIn
import Derived.Test.YtcmmclliabhnjaaGreatDoorWStSym3
import Derived.Test.YtcmmclliabhnjaaGreatDoorWGrPlain
set_option maxRecDepth 100000
set_option maxHeartbeats 16000000
namespace Go.Proofs.YtcmmclliabhnjaaGreatDoor
open Go.RowKit Go.Maps Go.Sort Go.Shelf
attribute[local go_sem]Oper.semAt_some
theorem wpListIn_range_I{F:Fence}{n:Nat}(w:World){ops:Array Oper}{rest:List Oper}{o:Oper}{a:Act}{Q:Exit→Act→World→Prop}(hg:o.guard=none)(mm:Operand)(t e:TypeId)(hop:o.op=Op.range t mm)(ht:Tryz.prog.underlying t=some (.map 102 e))(b:Nat)(m:Row Value)(hm:a.eval mm=.map (some b))(hown:MapI w b m)(hK: ∀w',MapIR w' b w.heap.size m (fun k=>(getB m k).isSome) m.length→w.grownBy w' none→w'.heap.size=w.heap.size+1→wpListIn F n Tryz.prog ops Q rest (a.put o.dst (.pointer (some ⟨w.heap.size,0,none⟩))) w'):wpListIn F n Tryz.prog ops Q (o::rest) a w:=by
 refine wpListIn_range_own w hg mm t hop 102 e keyTw ht raw b m.length (mapD m) hm hown ?_;intro w' h1 h2 h3;refine hK w' ⟨m.length,_,?_,fun k=>mapD_has m k⟩ h2 h3;have e:Maps.size (mapD m)=m.length:=by simp[mapD,Maps.size]
 rw[e]at h1;exact h1
theorem wpListIn_next_I{F:Fence}{n:Nat}(w:World){ops:Array Oper}{rest:List Oper}{o:Oper}{a:Act}{Q:Exit→Act→World→Prop}(hg:o.guard=none)(it:Operand)(hop:o.op=Op.next it false)(b r:Nat)(m:Row Value)(todo:List UInt8→Bool)(cnt:Nat)(hit:a.eval it=.pointer (some ⟨r,0,none⟩))(h:MapIR w b r m todo cnt)(hkeys: ∀p∈m,∃s n,twOk s n∧p.1=kbI s n)(hDone:(∀k,todo k=false)→wpListIn F n Tryz.prog ops Q rest (a.put o.dst (.tuple #[.bool false])) w)(hMore: ∀(s:List UInt8)(k:Int)(v:Value)(w':World)(cnt':Nat),twOk s k→todo (kbI s k)=true→getB m (kbI s k)=some v→MapIR w' b r m (fun x=>todo x&&!(x==kbI s k)) cnt'→cnt'<cnt→w.grownBy w' (some r)→w'.heap.size=w.heap.size→(Instr.entry (.pointer (some ⟨r,0,none⟩))).run Tryz.prog w'=.ok (.tuple #[twV s k,v]) w'→wpListIn F n Tryz.prog ops Q rest (a.put o.dst (.tuple #[.bool true,twV s k,v])) w'):wpListIn F n Tryz.prog ops Q (o::rest) a w:=by
 obtain⟨n0,left,h1,h2⟩:=h;refine wpListIn_next_ranges w hg it hop 102 keyTw raw (id:Value→Value) id (fun key kl _=>⟨key,rfl⟩) (fun v y _=>⟨v,rfl⟩) b r n0 (mapD m) left cnt hit h1 (fun _ hl=>hDone fun k=>by rw[←h2];exact hl _) ?_;intro x c kl y w' cnt' hkey hlk hv hat hrg hlt hgr hsz hen;obtain⟨k,rfl⟩:=tw_str hkey;have hy:y=(.held c,[]):=by have:=hv;simp only[raw,id,Option.some.injEq]at this;exact this.symm
 subst hy;have hg2:getB m k=some c:=mapD_at_some (hat .nil);obtain⟨s,n,hok,hkk⟩:=hkeys _ (getB_mem hg2);have hkk:k=kbI s n:=hkk;subst hkk;have hx:x=twV s n:=keyTw.inj hkey (tw_key s n hok);subst hx;exact hMore s n c w' cnt' hok (by rw[←h2];exact hlk) hg2 ⟨n0,_,hrg,fun k=>by show(left (.string k)&&!(k==kbI s n))=_;rw[h2]⟩ hlt hgr hsz hen
theorem MapIR.walks{w w':World}{b r:Nat}{m:Row Value}{todo:List UInt8→Bool}{cnt:Nat}(h:MapIR w b r m todo cnt)(hk:KeepsWalks w w'):MapIR w' b r m todo cnt:=by obtain⟨n,left,h1,h2⟩:=h;exact⟨n,left,h1.of_walks hk,h2⟩
theorem MapIR.iter{w:World}{b r:Nat}{m:Row Value}{todo:List UInt8→Bool}{cnt:Nat}(h:MapIR w b r m todo cnt): ∃o:Obj,w.heap[r]?=some o∧o.isWalk=true:=by obtain⟨n,left,h1,h2⟩:=h;exact h1.iter_walk
structure VlIn(wr:World)(b r:Nat)(l:List Ev)(M:Row Value)(todo:List UInt8→Bool)(cnt:Nat)(ps:List Ev):Prop where
 rng:MapIR wr b r M todo cnt
 mem: ∀e∈l,e∈ps↔todo (kbI e.src e.num)=false
 sub: ∀e∈ps,e∈l
 ids:(ps.map idOf).Nodup
theorem vl_nodup{l:List Ev}(h:(l.map idOf).Nodup):l.Nodup:=(List.pairwise_map.1 h).imp fun hne e=>hne (congrArg idOf e)
theorem VlIn.perm{wr:World}{b r:Nat}{l:List Ev}{M:Row Value}{todo:List UInt8→Bool}{cnt:Nat}{ps:List Ev}(h:VlIn wr b r l M todo cnt ps)(hr:EvRow l M)(hd: ∀k,todo k=false):ps.Perm l:=(List.perm_ext_iff_of_nodup (vl_nodup h.ids) (vl_nodup hr.ids)).2 fun e=>⟨h.sub e,fun he=>(h.mem e he).2 (hd _)⟩
theorem VlIn.next{wr w':World}{b r:Nat}{l:List Ev}{M:Row Value}{todo:List UInt8→Bool}{cnt cnt':Nat}{ps:List Ev}(h:VlIn wr b r l M todo cnt ps)(hr:EvRow l M){e:Ev}(he:e∈l)(ht:todo (kbI e.src e.num)=true)(hg:MapIR w' b r M (fun x=>todo x&&!(x==kbI e.src e.num)) cnt'):VlIn w' b r l M (fun x=>todo x&&!(x==kbI e.src e.num)) cnt' (ps++[e]):=by
 have hne:e∉ps:=fun hc=>by rw[(h.mem e he).1 hc]at ht;cases ht
 refine⟨hg,fun x hx=>?_,fun x hx=>?_,?_⟩
 ·rw[List.mem_append,List.mem_singleton,h.mem x hx];constructor
  ·rintro(h1|rfl);·simp[h1]
   ·simp
  ·intro h1;cases ht2:todo (kbI x.src x.num);·exact .inl rfl
   ·rw[ht2]at h1;right;have hk:kbI x.src x.num=kbI e.src e.num:=by simpa using h1
    obtain⟨e1,e2⟩:=kbI_inj (hr.ok x hx) (hr.ok e he) hk;exact ids_inj hr.ids hx he (by unfold idOf;rw[e1,e2])
 ·rcases List.mem_append.1 hx with hx|hx;·exact h.sub x hx
  ·rw[List.mem_singleton.1 hx];exact he
 ·rw[List.map_append,List.nodup_append];refine⟨h.ids,by simp,fun a ha b hb=>?_⟩;obtain⟨x,hx,rfl⟩:=List.mem_map.1 ha;simp only[List.map_cons,List.map_nil,List.mem_singleton]at hb;subst hb;intro e';exact hne (ids_inj hr.ids (h.sub x hx) he e'▸hx)
theorem VlIn.less{wr:World}{b r:Nat}{l:List Ev}{M:Row Value}{todo:List UInt8→Bool}{cnt:Nat}{ps:List Ev}(h:VlIn wr b r l M todo cnt ps){e:Ev}(he:e∈l)(ht:todo (kbI e.src e.num)=true):ps.length<l.length:=by
 have hne:e∉ps:=fun hc=>by rw[(h.mem e he).1 hc]at ht;cases ht
 have:=nodup_sub (a:=e::ps) (b:=l) (List.nodup_cons.2 ⟨hne,vl_nodup h.ids⟩) fun x hx=>by
  rcases List.mem_cons.1 hx with rfl|hx;·exact he
  ·exact h.sub x hx
 rw[List.length_cons]at this;omega
theorem twvals1_in(F:Fence)(n:Nat)(h8:F.fn 172)(hro:F.round=none)(hn:1≤n)(lp Bm b:Nat)(M:Row Value)(l:List Ev)(hrow:EvRow l M)(J Jx:List Ev→World→Prop)(hY: ∀pre x W,J pre W→pre.length<l.length→YieldAt F (n-1) Tryz.prog lp #[x.agg] W fun e W'=>(e=.returned (.bool true)∧J (pre++[x]) W'∧KeepsWalks W W')∨(e=.returned (.bool false)∧Jx (pre++[x]) W'))(W:World)(hJ:AbidesFrom W.heap.size J)(hm:W.cell? ⟨Bm,0,none⟩=some (.map (some b)))(hown:MapI W b M)(h0:J [] W):CallsIn F n Tryz.prog 172 #[.func (.yield lp) #[] #[],.pointer (some ⟨Bm,0,none⟩)] W fun e W'=>(∃v,e=.returned v)∧((∃xs,xs.Perm l∧J xs W')∨(∃pre,True∧Jx pre W')):=by
 refine callsIn_of_wp Tryz.func172 rfl h8 ?_ hro;simp only[Tryz.ntmps172,List.size_toArray,List.length_cons,List.length_nil,Nat.reduceAdd,Nat.reduceSub,Array.replicate_succ,Array.replicate_zero,List.push_toArray,List.append_toArray,List.nil_append,List.cons_append];gi_wp2_with(first|(gi_at_range;refine wpListIn_range_I _ rfl _ 98 74 rfl Tryz.underlying98 b M rfl hown ?_;intro w0 hrg0 hg0 hs0)|gi_in);go_frame;have HST:=qH (show∃(todo:List UInt8→Bool)(cnt:Nat)(ps:List Ev),VlIn w0 b W.heap.size l M todo cnt ps∧J ps w0 from by refine⟨_,_,[],⟨hrg0,fun e he=>?_,by simp,by simp⟩,hJ [] W w0 none h0 hg0 (fun r e=>by cases e)⟩;have:=hrow.mem he;simp[this]);clear hrg0 hg0 hs0;gi_loopw[](fun wr=> ∃(todo:List UInt8→Bool)(cnt:Nat)(ps:List Ev),VlIn wr b W.heap.size l M todo cnt ps∧J ps wr)(fun wr=>wr.rangeLeft b W.heap.size);case atStart=>exact HST.out
 case round=>
  obtain⟨todo,cnt,ps,hin,hJs⟩:=hrel;have HIN:=qH hin;gi_wp2_with(first|(gi_at_next;refine wpListIn_next_I _ rfl _ rfl b W.heap.size M todo cnt rfl HIN.out.rng (fun p hp=>by obtain⟨e,he,hpe⟩:=hrow.key p hp;exact⟨e.src,e.num,hrow.ok e he,hpe⟩) ?_ ?_)|gi_in);·intro hdone;gi_wp2;go_end0;exact⟨⟨_,rfl⟩,.inl ⟨ps,HIN.out.perm hrow hdone,hJs⟩⟩
  ·intro s k v w2 cnt2 hok htk hget hrg2 hlt hg2 hs2 hen;have hgt:=hrow.get s k hok;rw[hget]at hgt;cases hf:l.find? (fun x=>decide (idOf x=(s,k)))with
    |none=>rw[hf]at hgt;cases hgt
    |some x=>
     rw[hf]at hgt;have hv:v=x.agg:=Option.some.inj hgt;have hel:=List.mem_of_find?_eq_some hf;have hid:idOf x=(s,k):=by have:=List.find?_some hf;simpa using this
     obtain⟨rfl,rfl⟩:x.src=s∧x.num=k:=by unfold idOf at hid;simpa using hid
     subst hv;have hJ2:J ps w2:=hJ ps wr w2 (some W.heap.size) hJs hg2 (fun r e=>by cases e;exact⟨Nat.le_refl _,HIN.out.rng.iter⟩);have hJ3:J ps (w2.alloc (evObj x)):=hJ ps w2 _ none hJ2 (World.grownBy_alloc w2 _ none) (fun r e=>by cases e);obtain⟨fn,tmps,assign,body,hy,hR⟩:=hY ps x _ hJ3 (HIN.out.less hel htk);have HNX:=qH (HIN.out.next hrow hel htk hrg2);have HLT:=qH hlt;have HCN:=qH HIN.out.rng.left_eq;clear hs2 hget hgt hf hid hok htk hrg2 hlt hin hJ2 hJ3;unfold twV Ev.agg at hen;unfold Ev.agg at hy;gi_wp2;refine hR.mono ?_;rintro e W3(⟨rfl,hJ3,hk3⟩|⟨rfl,hJx3⟩)
     ·gi_wp2;have hrg3:=MapIR.walks HNX.out.rng ((KeepsWalks.alloc w2 (evObj x)).trans hk3);go_roundw;case rel=>exact⟨_,cnt2,ps++[x],⟨hrg3,HNX.out.mem,HNX.out.sub,HNX.out.ids⟩,hJ3⟩
      case measure=>rw[hrg3.left_eq,HCN.out];exact HLT.out
     ·gi_wp2;refine bodyPost_ret (results_none rfl _ _ _) rfl ?_;exact⟨⟨_,rfl⟩,.inr ⟨ps++[x],trivial,hJx3⟩⟩
theorem twvals_stops(F:Fence)(n:Nat)(h8:F.fn 172)(hro:F.round=none)(hn:1≤n)(Bm b:Nat)(M:Row Value)(l:List Ev)(hrow:EvRow l M)(w:World)(hBm:Bm<w.heap.size)(hm:w.cell? ⟨Bm,0,none⟩=some (.map (some b)))(hown:MapI w b M):SeqStopsK F n Tryz.prog 172 #[.pointer (some ⟨Bm,0,none⟩)] (fun x:Ev=> #[x.agg]) KeepsWalks (fun xs=>xs.Perm l) (fun _=>True) l.length w:=fun lp J Jx W hW hJ _ hY h0=>twvals1_in F n h8 hro hn lp Bm b M l hrow J Jx hY W hJ ((hW.cell (p:=⟨Bm,0,none⟩) hBm).trans hm) (hown.block (hW.block _ hown.lt)) h0
theorem evbox_own(Bx:Nat)(x:Ev):Own (fun(_:Unit)W=>W.heap[Bx]?=some (evObj x)):=fun _ X Y row hs hg hrow=>(hg.block Bx (heap_lt hs) (fun e'=>by obtain⟨o,ho,hc⟩:=hrow Bx e'.symm;rw[hs]at ho;cases ho;cases hc)).trans hs
theorem twapp_in(F:Fence)(n:Nat)(h1:F.fn 171)(hro:F.round=none)(hn:3≤n)(g:Nat)(lb:Array Value)(hFg:F.fn g)(eg: ∀args w,(callFunc g args).run Tryz.prog w=.ok (.enter g args) w)(l:List Ev)(hl:l.length≤200000)(w:World)(hseq:SeqStopsK F (n-1) Tryz.prog g lb (fun x:Ev=> #[x.agg]) KeepsWalks (fun xs=>xs.Perm l) (fun _=>True) l.length w):CallsIn F n Tryz.prog 171 #[.slice none 0 0,.func (.func g) #[] lb] w fun e w'=> ∃(v:Value)(xs:List Ev),e=.returned v∧xs.Perm l∧w'.ownsRow w.heap.size 74 8 v xs.length (evCells xs)∧Below w.heap.size w w':=by
 obtain⟨i0,hi,hz0,hz1,hz2⟩:=info_parts ev_info;have hn1:1≤n:=by omega
 have hte:(23:TypeId)≠74:=by decide
 refine callsIn_of_wp_marks Tryz.func171 rfl h1 ?_ hro;simp only[Tryz.ntmps171,List.size_toArray,List.length_cons,List.length_nil,Nat.reduceAdd,Nat.reduceSub,Array.replicate_succ,Array.replicate_zero,List.push_toArray,List.append_toArray,List.nil_append,List.cons_append];gi_wp2;have bS:=Boxed.new w 23 (.slice none 0 0);have hB0:Below w.heap.size w (w.alloc (.cells #[.slice none 0 0] 23)):=(Below.refl _ w).alloc (Nat.le_refl _) _;have hs0:(w.alloc (.cells #[.slice none 0 0] 23)).heap.size=w.heap.size+1:=by simp
 refine wpIn_rangeFunc_ownH hro hn1 (gf:=g) (lb:=lb) rfl hFg eg hseq walksK_t walksK_b hB0 (fun _=>rfl) (fun pre W=>(∃v,Boxed W w.heap.size 23 v∧W.ownsRow w.heap.size 74 8 v pre.length (evCells pre)∧True)∧Below w.heap.size w W) (fun _ _ _=>False) (OwnFrom.and (Own.from (holdsRow_own w.heap.size w.heap.size 23 74 8 List.length evCells (fun _ _=>True)) _) (ownFrom_below (Nat.le_refl _) (by omega))) (fun _ _ _ _ _ hs _ _=>hs) ⟨⟨_,bS,⟨rfl,.inl ⟨rfl,rfl⟩⟩,trivial⟩,hB0⟩ (fun x a' W=> ∃Bx,w.heap.size<Bx∧W.heap[Bx]?=some (evObj x)∧a'={tmps:= #[.slice none 0 0,.func (.func g) #[] lb,.pointer (some ⟨w.heap.size,0,none⟩),undef,.slice none 0 0,.pointer (some ⟨Bx,0,none⟩),.func (.func g) #[] lb,x.agg,undef,undef,undef,undef,undef],defers:=[]}) (fun x a' _ X Y row hs hg hr=>by obtain⟨Bx,e1,e2,e3⟩:=hs;exact⟨Bx,e1,evbox_own Bx x () X Y row e2 hg (fun r e=>(hr r e).2),e3⟩) ?assign ?body ?done ?stop;case assign=>rintro lp pre x W K⟨⟨v,bV,hV,_⟩,hB1⟩hK;have hbx:=bV.lt;unfold Ev.agg at hK⊢;gi_wp2;exact hK _ _ ((KeepsOthers.alloc _ _).from _) (KeepsWalks.alloc _ _) ⟨⟨v,bV.alloc _,hV.alloc _,trivial⟩,hB1.alloc hB1.size _⟩ ⟨W.heap.size,hbx,heap_alloc_new W _,rfl⟩
 case body=>rintro lp pre x a' W hlW _⟨⟨v,bV,hV,_⟩,hB1⟩⟨Bx,hBx,hbx,rfl⟩hlt;obtain⟨A,c,rfl⟩:=ownsRow_form hV;have cV:=bV.cell;have kx: ∀o,W.cell? ⟨Bx,o,none⟩=_:=fun o=>cell_of_row W Bx o _ _ (0,0) hbx;have e0:W.cell? ⟨Bx,0,none⟩=some (.string ⟨x.src.toArray⟩):=(kx 0).trans rfl;have e1:W.cell? ⟨Bx,1,none⟩=some (.int .i64 x.num):=(kx 1).trans rfl;have e2:W.cell? ⟨Bx,2,none⟩=some (.int .i64 x.at_):=(kx 2).trans rfl;have e3:W.cell? ⟨Bx,3,none⟩=some (.int .i64 x.kind):=(kx 3).trans rfl;have e4:W.cell? ⟨Bx,4,none⟩=some (.string ⟨x.per.toArray⟩):=(kx 4).trans rfl;have e5:W.cell? ⟨Bx,5,none⟩=some (.string ⟨x.item.toArray⟩):=(kx 5).trans rfl;have e6:W.cell? ⟨Bx,6,none⟩=some (.int .i64 x.val):=(kx 6).trans rfl;have e7:W.cell? ⟨Bx,7,none⟩=some (.string ⟨x.text.toArray⟩):=(kx 7).trans rfl;have HNC:=qH (show∀j u,x.cells[j]?=some u→(W.alloc (evObj x)).cell? ((⟨W.heap.size,0,none⟩:Addr).add j)=some u from fun j u hu=>by have h:=cell_of_row (W.alloc (evObj x)) W.heap.size j _ _ (0,0) (heap_alloc_new W (evObj x));rw[show((⟨W.heap.size,0,none⟩:Addr).add j)=⟨W.heap.size,j,none⟩from by simp[Addr.add];exact fun h=>h.symm];exact(h.trans (show _=x.cells.toArray[j]? from rfl)).trans ((List.getElem?_toArray ..).trans hu));have hsW:=hB1.size;have HBV:=qH bV;have HHV:=qH hV;have HB1:=qH hB1;clear kx hbx bV hV hB1;unfold Ev.agg;unfold evObj at HNC;gi_wp2_with(first|(gi_at_builtin;refine wpListIn_append_own _ rfl _ _ 23 rfl w.heap.size 74 i0 _ 8 96 Tryz.underlying23 hi hz0 hz1 hz2 rfl (by decide) _ _ _ rfl (HHV.out.alloc _) ⟨W.heap.size,0,none⟩ 1 1 x.cells rfl rfl HNC.out (cells_one x) (by unfold maxLen;omega) (by omega) (by simp;omega) ?_;intro v' w3 hown' hg3 hnil3;obtain⟨b1,b2,b3,b4,b5⟩:=Boxed.appended HBV.out hte HHV.out HB1.out.size (Nat.le_refl _) hown' hg3;obtain⟨g',cap',rfl⟩:=ownsRow_succ hown';have c3:=b1.cell;have f3:=b1.frozen;have HF:=qH (And.intro b2 (And.intro b3 (And.intro b4 b5)));clear hown' hg3 hnil3 b1 b2 b3 b4 b5 e0 e1 e2 e3 e4 e5 e6 e7 cV;go_frame)|gi_in);obtain⟨b2,b3,b4,b5⟩:=HF.out;exact⟨b4.from _,b4.walks,⟨⟨_,b2,by rw[evCells_one,List.length_append];exact b3,trivial⟩,HB1.out.trans b5⟩⟩
 case done=>rintro D zs W hD hp⟨⟨v,bV,hV,_⟩,hB1⟩hK;obtain⟨A,c,rfl⟩:=ownsRow_form hV;have cV:=bV.cell;gi_wp2;refine⟨by simp,.inl ⟨_,_,rfl,run_takeDeferred hK,?_⟩⟩;exact⟨_,results_tmp rfl _ _ _,_,zs,rfl,hp,ownsRow_putObj hV _ hK rfl,hB1.trans (belowK_b (w:=w) (Nat.le_refl _) W D _ _ (by omega) hK rfl rfl)⟩
 case stop=>rintro D c pre W hD hpre h hK;exact h.elim
def StPost(w0:World)(base g n cap:Nat)(l:List Ev)(e:Ending)(w':World):Prop:=e=.returned (.tuple #[])∧ ∃l',SortedE l'∧l'.Perm l∧Srt w0 base g n cap l' w'
def St1(w0:World)(base g n cap:Nat)(l:List Ev)(av bv:Value)(wr:World):Prop:= ∃(p:Nat)(D R:List Ev),av=.int .i64 (p:Int)∧bv=.int .i64 ((p+20:Nat):Int)∧D.length=p∧p+R.length=n∧Done 20 D∧(D++R).Perm l∧Srt w0 base g n cap (D++R) wr
def St2(w0:World)(base g n cap:Nat)(l:List Ev)(sv:Value)(wr:World):Prop:= ∃(s:Nat)(l1:List Ev),sv=.int .i64 (s:Int)∧0<s∧s≤2000000+20∧Blocks s l1∧l1.Perm l∧Srt w0 base g n cap l1 wr
def St3(w0:World)(base g n cap:Nat)(l:List Ev)(s:Nat)(av bv:Value)(wr:World):Prop:= ∃(p:Nat)(D R:List Ev),av=.int .i64 (p:Int)∧bv=.int .i64 ((p+2*s:Nat):Int)∧D.length=p∧p+R.length=n∧Done (2*s) D∧Blocks s R∧(D++R).Perm l∧Srt w0 base g n cap (D++R) wr
theorem stable_any(w0 w:World)(base g n cap:Nat)(l:List Ev)(h:Srt w0 base g n cap l w)(hn:n≤1000000):Calls Tryz.prog 117 #[.slice (some ⟨g,0,none⟩) n cap,.int .i64 n,cmpV] w (StPost w0 base g n cap l):=by
 have HH:=qH (show St1 w0 base g n cap l (.int .i64 0) (.int .i64 20) w from⟨0,[],l,rfl,rfl,rfl,by rw[Nat.zero_add];exact h.len.symm,Done.nil _,List.Perm.refl _,h⟩);clear h;go_enter Tryz.func117,Tryz.ntmps117;go_wp2;go_loopw[7,8](fun a b wr=>St1 w0 base g n cap l a b wr)(fun a _ _=>n-(intOf a).toNat);case atStart=>exact HH.out
 case round=>
  obtain⟨p,D,R,rfl,rfl,hD,hR,hdn,hpm,hS⟩:=hrel;have HD:=qH hD;have HR:=qH hR;have HDN:=qH hdn;have HPM:=qH hpm;have HS:=qH hS;have hpn:p≤n:=by omega
  obtain⟨q,hq⟩: ∃q,q=p+20:=⟨_,rfl⟩;rw[←hq];have hpq1:p+20≤q:=by omega
  have hpq2:q≤p+20:=by omega
  clear hD hR hdn hpm hS HH hq;by_cases hqn:q≤n
  ·have t1:(q:Int)≤n:=by omega
   have hRl:20≤R.length:=by have:=HR.out;omega
   have HC:=qH (insSort_any w0 wr base g n cap D (R.take 20) (R.drop 20) (by rw[List.append_assoc,List.take_append_drop];exact HS.out) hn p q HD.out (by rw[List.length_take];omega));go_wp2_with fail;with_reducible refine HC.out.mono ?_
   rintro r9 w2⟨rfl,S',h1,h2,h3⟩;have HRL:=qH (show St1 w0 base g n cap l (.int .i64 (q:Int)) (.int .i64 ((q:Int)+20)) w2 from⟨q,D++S',R.drop 20,rfl,by congr 1,by rw[List.length_append,HD.out,h2.length_eq,List.length_take];omega,by rw[List.length_drop];have:=HR.out;omega,HDN.out.more h1 (by rw[h2.length_eq,List.length_take];omega),by
    refine List.Perm.trans ?_ HPM.out;have e:D++R=D++R.take 20++R.drop 20:=by rw[List.append_assoc,List.take_append_drop]
    rw[e];exact(h2.append_left D).append_right _,h3⟩);clear h1 h2 h3 HC;go_wp2;go_roundw;case rel=>exact HRL.out
   case measure=>simp[intOf];omega
  ·have t1: ¬(q:Int)≤n:=by omega
   have HC:=qH (insSort_any w0 wr base g n cap D R [] (by simpa using HS.out) hn p n HD.out HR.out);go_wp2_with fail;with_reducible refine HC.out.mono ?_
   rintro r9 w2⟨rfl,S',h1,h2,h3⟩;have HST:=qH (show St2 w0 base g n cap l (.int .i64 20) w2 from⟨20,D++S',rfl,by omega,by omega,HDN.out S' (.last S' h1 (by rw[h2.length_eq];have:=HR.out;omega)),(h2.append_left D).trans HPM.out,by simpa using h3⟩);clear h1 h2 h3 HC HS HPM HDN HD HR;go_wp2;go_loopw[6,7,8,9](fun s _ _ _ wz=>St2 w0 base g n cap l s wz)(fun s _ _ _ _=>n-(intOf s).toNat);case atStart=>exact HST.out
   case round=>
    obtain⟨s,l1,rfl,hs0,hs1,hbl,hpm,hS⟩:=hrel;have HBL:=qH hbl;have HPM:=qH hpm;have HS:=qH hS;clear hbl hpm hS HST;generalize wr=wz at*;by_cases hsn:s<n
    ·have t2:(s:Int)<n:=by omega
     have HT:=qH (show St3 w0 base g n cap l s (.int .i64 0) (.int .i64 (2*(s:Int))) wz from⟨0,[],l1,rfl,by congr 1;omega,rfl,by rw[Nat.zero_add];exact HS.out.len.symm,Done.nil _,HBL.out,HPM.out,HS.out⟩);clear HBL HPM HS;go_wp2;go_loopw[7,8](fun a b wv=>St3 w0 base g n cap l s a b wv)(fun a _ _=>n-(intOf a).toNat);case atStart=>exact HT.out
     case round=>
      obtain⟨p,D,R,rfl,rfl,hD,hR,hdn,hblk,hpm,hS⟩:=hrel;have HD:=qH hD;have HR:=qH hR;have HDN:=qH hdn;have HBK:=qH hblk;have HPM:=qH hpm;have HS:=qH hS;have hpn:p≤n:=by omega
      obtain⟨q,hq⟩: ∃q,q=p+2*s:=⟨_,rfl⟩;rw[←hq];have hpq1:p+2*s≤q:=by omega
      have hpq2:q≤p+2*s:=by omega
      clear hD hR hdn hblk hpm hS HT hq;generalize wr=wv at*;obtain⟨ps,hps⟩: ∃ps,ps=p+s:=⟨_,rfl⟩;have hps1:p+s≤ps:=by omega
      have hps2:ps≤p+s:=by omega
      by_cases hqn:q≤n
      ·have t3:(q:Int)≤n:=by omega
       obtain⟨e1,e2,r',hRe,g1,g2,g3,g4,g5⟩:=HBK.out.two hs0 (by have:=HR.out;omega);have HC:=qH (symMerge_any (e1.length+e2.length) w0 wv base g n cap D e1 e2 r' (Nat.le_refl _) (by have:=HS.out;rw[hRe]at this;simpa only[List.append_assoc]using this) g1 g2 (by omega) (by omega) hn p ps q HD.out (by omega) (by omega));have HRE:=qH hRe;have HG5:=qH g5;have HG3:=qH g3;have HG4:=qH g4;have s1:(p:Int)+s=ps:=by omega
       clear hRe g1 g2 g3 g4 g5 hps;go_wp2_with fail;with_reducible refine HC.out.mono ?_
       rintro r9 w2⟨rfl,M,h1,h2,h3⟩;have HRL:=qH (show St3 w0 base g n cap l s (.int .i64 (q:Int)) (.int .i64 ((q:Int)+2*s)) w2 from⟨q,D++M,r',rfl,by first|rfl|(congr 1;omega),by have hm:=h2.length_eq;have:=HG3.out;have:=HG4.out;have:=HD.out;simp at hm⊢;omega,by have h4:=congrArg List.length HRE.out;have:=HG3.out;have:=HG4.out;have:=HR.out;simp at h4;omega,HDN.out.more h1 (by have hm:=h2.length_eq;have:=HG3.out;have:=HG4.out;simp at hm;omega),HG5.out,by
        refine List.Perm.trans ?_ HPM.out;rw[HRE.out];have e:D++(e1++e2++r')=D++(e1++e2)++r':=by simp only[List.append_assoc]
        rw[e];exact(h2.append_left D).append_right _,h3⟩);clear h1 h2 h3 HC s1;go_wp2;go_roundw;case rel=>exact HRL.out
       case measure=>simp[intOf];omega
      ·have t3: ¬(q:Int)≤n:=by omega
       have s1:(p:Int)+s=ps:=by omega
       by_cases hm:ps<n
       ·have t4:(ps:Int)<n:=by omega
        obtain⟨e1,e2,hRe,g1,g2,g3,g4⟩:=HBK.out.rest (by have:=HR.out;omega) (by have:=HR.out;omega);have hel:e1.length+e2.length=R.length:=by rw[hRe,List.length_append]
        have HC:=qH (symMerge_any (e1.length+e2.length) w0 wv base g n cap D e1 e2 [] (Nat.le_refl _) (by have:=HS.out;rw[hRe]at this;simpa only[List.append_assoc,List.append_nil]using this) g1 g2 (by omega) g4 hn p ps n HD.out (by omega) (by have:=HR.out;omega));have HRE:=qH hRe;have HEL:=qH hel;clear hRe g1 g2 g3 g4 hps hel;go_wp2_with fail;with_reducible refine HC.out.mono ?_
        rintro r9 w2⟨rfl,M,h1,h2,h3⟩;have HRL:=qH (show St2 w0 base g n cap l (.int .i64 ((s:Int)*2)) w2 from⟨2*s,D++M,by congr 1;omega,by omega,by omega,HDN.out M (.last M h1 (by rw[h2.length_eq,List.length_append];have:=HEL.out;have:=HR.out;omega)),by refine List.Perm.trans ?_ HPM.out;rw[HRE.out];exact h2.append_left D,by simpa using h3⟩);clear h1 h2 h3 HC s1;go_wp2;go_roundw;case rel=>exact HRL.out
        case measure=>simp[intOf];omega
       ·have t4: ¬(ps:Int)<n:=by omega
        have HRL:=qH (show St2 w0 base g n cap l (.int .i64 ((s:Int)*2)) wv from⟨2*s,D++R,by congr 1;omega,by omega,by omega,HDN.out R (.last R (HBK.out.one (by have:=HR.out;omega)) (by have:=HR.out;omega)),HPM.out,HS.out⟩);clear hps;go_wp2;go_roundw;case rel=>exact HRL.out
        case measure=>simp[intOf];omega
    ·have t2: ¬(s:Int)<n:=by omega
     have HF:=qH (show StPost w0 base g n cap l (.returned (.tuple #[])) wz from⟨rfl,l1,HBL.out.one (by have:=HS.out.len;omega),HPM.out,HS.out⟩);clear HBL HPM HS;go_wp2;go_end0;exact HF.out
def I1(w:World)(x:Int)(iv:Value)(wr:World):Prop:=iv=.int .i64 x∧w=wr
def I2(w:World)(x y:Int)(iv jv:Value)(wr:World):Prop:=iv=.int .i64 x∧jv=.int .i64 y∧w=wr
theorem ins0_any(w:World)(v:Value):Calls Tryz.prog 176 #[v,.int .i64 0,.int .i64 0,cmpV] w fun e w'=>e=.returned (.tuple #[])∧w=w':=by
 go_enter Tryz.func176,Tryz.ntmps176;go_wp2;go_loopw[8](fun i wr=>I1 w 1 i wr)(fun _ _=>0);case atStart=>exact⟨rfl,rfl⟩
 case round=>obtain⟨rfl,rfl⟩:=hrel;go_wp2;go_end0;exact⟨rfl,rfl⟩
theorem stable0_any(w:World)(v:Value):Calls Tryz.prog 117 #[v,.int .i64 0,cmpV] w fun e w'=>e=.returned (.tuple #[])∧w=w':=by
 go_enter Tryz.func117,Tryz.ntmps117;go_wp2;go_loopw[7,8](fun a b wr=>I2 w 0 20 a b wr)(fun _ _ _=>0);case atStart=>exact⟨rfl,rfl,rfl⟩
 case round=>
  obtain⟨rfl,rfl,rfl⟩:=hrel;go_wp2_with fail;refine(ins0_any w v).mono ?_;rintro r9 w2⟨rfl,rfl⟩;go_wp2;go_loopw[6](fun s wr=>I1 w 20 s wr)(fun _ _=>0);case atStart=>exact⟨rfl,rfl⟩
  case round=>obtain⟨rfl,rfl⟩:=hrel;go_wp2;go_end0;exact⟨rfl,rfl⟩
theorem Evs.clip{w:World}{B n c:Nat}{A:Option Addr}{es:List Ev}(h:Evs w B A n c es):Evs w B A n n es:=⟨Cel.len h,Nat.le_refl _,Nat.le_trans (Cel.cap h) (Cel.max h),Cel.cell h⟩
def ClipPost(w:World)(A:Option Addr)(n:Nat)(e:Ending)(w':World):Prop:=e=.returned (.slice A n n)∧w=w'
theorem clip_any(w:World)(A:Option Addr)(n c:Nat)(hA:A=none∧n=0∧c=0∨ ∃g,A=some ⟨g,0,none⟩)(hc:n≤c)(hm:c≤maxLen):Calls Tryz.prog 62 #[.slice A n c] w (ClipPost w A n):=by
 have hm':c≤9223372036854775807:=hm;rcases hA with⟨rfl,rfl,rfl⟩|⟨g,rfl⟩;·go_enter Tryz.func62,Tryz.ntmps62;go_wp2;go_ret;exact⟨rfl,rfl⟩
 ·go_enter Tryz.func62,Tryz.ntmps62;go_wp2;go_ret;exact⟨rfl,rfl⟩
theorem sstab0_any(w:World):Calls Tryz.prog 60 #[.slice none 0 0,cmpV] w fun e w'=>e=.returned (.tuple #[])∧w=w':=by go_enter Tryz.func60,Tryz.ntmps60;go_wp2_with fail;refine(stable0_any w _).mono ?_;rintro r9 w2⟨rfl,rfl⟩;go_wp2;go_end0;exact⟨rfl,rfl⟩
theorem sstab_any(w0 w:World)(base g n cap:Nat)(l:List Ev)(h:Srt w0 base g n cap l w)(hn:n≤1000000):Calls Tryz.prog 60 #[.slice (some ⟨g,0,none⟩) n cap,cmpV] w (StPost w0 base g n cap l):=by have HH:=qH h;clear h;go_enter Tryz.func60,Tryz.ntmps60;go_wp2_with fail;refine(stable_any w0 w base g n cap l HH.out hn).mono ?_;rintro r9 w2⟨rfl,l',h1,h2,h3⟩;have HF:=qH (show StPost w0 base g n cap l (.returned (.tuple #[])) w2 from⟨rfl,l',h1,h2,h3⟩);clear h1 h2 h3;go_wp2;go_end0;exact HF.out
def SortPost(w:World)(es:List Ev)(e:Ending)(w':World):Prop:= ∃(B:Option Addr)(c:Nat)(l:List Ev),e=.returned (.slice B es.length c)∧Evs w' w'.heap.size B es.length c l∧SortedE l∧l.Perm es∧Below w.heap.size w w'
theorem evsort_any(w:World)(A:Option Addr)(n c:Nat)(es:List Ev)(h:Evs w w.heap.size A n c es)(hn:n≤200000):Calls Tryz.prog 17 #[.slice A n c] w (SortPost w es):=by
 have HH:=qH h;clear h;go_enter Tryz.func17,Tryz.ntmps17;go_wp2_with fail;refine(clone_any w A n c es HH.out hn).mono ?_;rintro r w1⟨v1,rfl,ho1,hb1⟩;have hel:es.length≤200000:=by rw[HH.out.len];exact hn
 rcases ho1.2 with⟨hv,h0⟩|⟨g,cap,cur,hv,hg,hrow,hlc,hcm,_⟩;·subst hv;have he:es=[]:=List.eq_nil_of_length_eq_zero h0;subst he;have HF:=qH (show SortPost w [] (.returned (.slice none 0 0)) w1 from⟨none,0,[],rfl,Cel.nil _ _ _ _ _ (Nat.zero_le _),List.Pairwise.nil,List.Perm.refl _,hb1⟩);clear ho1 h0;go_wp2_with fail;refine(sstab0_any w1).mono ?_;rintro r9 w2⟨rfl,rfl⟩;go_wp2_with fail;refine(clip_any w1 none 0 0 (.inl ⟨rfl,rfl,rfl⟩) (Nat.le_refl _) (Nat.zero_le _)).mono ?_;rintro r9 w2⟨rfl,rfl⟩;go_wp2;go_ret;exact HF.out
 ·subst hv;have HS:=qH (show Srt w1 w.heap.size g es.length cap es w1 from⟨ho1,rfl,⟨rfl,rfl,rfl,Nat.le_refl _,fun _ _ _=>rfl⟩⟩);have HB1:=qH hb1;clear ho1 hrow hb1;go_wp2_with fail;refine(sstab_any w1 w1 w.heap.size g es.length cap es HS.out (by omega)).mono ?_;rintro r9 w2⟨rfl,l',h1,h2,h3⟩;have HF:=qH (show SortPost w es (.returned (.slice (some ⟨g,0,none⟩) es.length es.length)) w2 from⟨some ⟨g,0,none⟩,es.length,l',rfl,by have h4:=h3.own;unfold OwnE at h4;rw[←h3.len]at h4;have h5:Evs w2 w2.heap.size (some ⟨g,0,none⟩) es.length cap l':=Cel.of_own h4;exact h5.clip,h1,h2,Below.grown HB1.out h3.grown HB1.out.size (fun k hk=>by injection hk with hk;omega)⟩);clear h1 h2 h3;go_wp2_with fail;refine(clip_any w2 (some ⟨g,0,none⟩) es.length cap (.inr ⟨g,rfl⟩) hlc hcm).mono ?_;rintro r9 w3⟨rfl,rfl⟩;go_wp2;go_ret;exact HF.out
theorem twvalues_any(w:World)(b:Nat):Calls Tryz.prog 113 #[.map (some b)] w (fun e w'=>e=.returned (.func (.func 172) #[] #[.pointer (some ⟨w.heap.size,0,none⟩)])∧w'=w.alloc (.cells #[.map (some b)] 98)):=by go_enter Tryz.func113,Tryz.ntmps113;go_wp2;go_ret;exact⟨rfl,rfl⟩
def ColPost(w:World)(l:List Ev)(e:Ending)(w':World):Prop:= ∃v xs,e=.returned v∧xs.Perm l∧w'.ownsRow w.heap.size 74 8 v xs.length (evCells xs)∧Below w.heap.size w w'
theorem twcollect_any(w:World)(Bm b:Nat)(M:Row Value)(l:List Ev)(hrow:EvRow l M)(hl:l.length≤200000)(hBm:w.heap[Bm]?=some (.cells #[.map (some b)] 98))(hown:MapI w b M):Calls Tryz.prog 112 #[.func (.func 172) #[] #[.pointer (some ⟨Bm,0,none⟩)]] w (ColPost w l):=by have HA:=qH ((callsIn_wide (n:=5)).1 (twapp_in Fence.wide 5 trivial rfl (by omega) _ _ trivial (enters_of Tryz.func172 (by kernel_rfl) rfl) l hl w (twvals_stops Fence.wide 4 trivial rfl (by omega) Bm b M l hrow w (heap_lt hBm) ((cell_of_row w Bm 0 _ _ (0,0) hBm).trans rfl) hown)));clear hBm hown hrow;go_enter Tryz.func112,Tryz.ntmps112;go_wp2_with fail;refine HA.out.mono ?_;rintro r w1⟨v,xs,rfl,hp,ho,hb⟩;have HO:=qH ho;clear ho;go_wp2;go_ret;exact⟨v,xs,rfl,hp,HO.out,hb⟩
def TwSrtPost(w:World)(l:List Ev)(e:Ending)(w':World):Prop:= ∃B c ls,e=.returned (.slice B l.length c)∧Evs w' w'.heap.size B l.length c ls∧SortedE ls∧ls.Perm l∧Below w.heap.size w w'
theorem twsorted_any(w:World)(b:Nat)(M:Row Value)(l:List Ev)(hrow:EvRow l M)(hl:l.length≤100000)(hown:MapI w b M):Calls Tryz.prog 52 #[.map (some b)] w (TwSrtPost w l):=by have hb1:Below w.heap.size w (w.alloc (.cells #[.map (some b)] 98)):=(Below.refl _ _).alloc (Nat.le_refl _) _;have HC:=qH (twcollect_any _ w.heap.size b M l hrow (by omega) (heap_alloc_new w _) (hown.block (hb1.block _ hown.lt)));have HB:=qH hb1;clear hown hrow hb1;go_enter Tryz.func52,Tryz.ntmps52;go_wp2_with fail;refine(twvalues_any w b).mono ?_;rintro r w1⟨rfl,rfl⟩;go_wp2_with fail;refine HC.out.mono ?_;rintro r w2⟨v,xs,rfl,hp,ho,hb⟩;obtain⟨A,c,rfl⟩:=ownsRow_form ho;have hlen:=hp.length_eq;have HO:=qH (evsort_any w2 A _ c xs (Cel.of_own ho) (by omega));have HP:=qH hp;have HB2:=qH (HB.out.trans (hb.mono HB.out.size));rw[hlen]at HO;rw[hlen];clear ho hb hp hlen HC;go_wp2_with fail;refine HO.out.mono ?_;rintro r w3⟨B,c',ls,rfl,hev,hso,hpe,hb3⟩;have HF:=qH (show TwSrtPost w l (.returned (.slice B l.length c')) w3 from⟨B,c',ls,rfl,by have:=HP.out.length_eq;rw[this]at hev;exact hev,hso,hpe.trans HP.out,HB2.out.trans (hb3.mono HB2.out.size)⟩);have hlen:=HP.out.length_eq;rw[hlen];clear hlen hev hso hpe hb3;go_wp2;go_ret;exact HF.out
end Go.Proofs.YtcmmclliabhnjaaGreatDoor
