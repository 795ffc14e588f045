/-
  Layer 4: Sync.
-/
import Derived.Test.YtajihpcdplpcdaaGreatDoorTDk3
set_option maxRecDepth 100000
set_option maxHeartbeats 16000000
namespace Go.Proofs.YtajihpcdplpcdaaGreatDoor
open Go.RowKit Go.Maps Go.Sort
theorem rowUp_same{α:Type}{a b:Row α}(ha:RowUp a)(hb:RowUp b)(h: ∀p,p∈a↔p∈b):a=b:=by
 have key: ∀m:Row α,RowUp m→m.Nodup:=fun m hm=>hm.imp fun{x y}hxy e=>by rw[e,bb_irrefl]at hxy;cases hxy
 refine List.Perm.eq_of_pairwise (le:=fun(x y:List UInt8×α)=>bytesBefore x.1 y.1=true) (fun x y _ _ h1 h2=>?_) ha hb ((List.perm_ext_iff_of_nodup (key a ha) (key b hb)).2 h);have:=bb_trans h1 h2;rw[bb_irrefl]at this;cases this
theorem RowUp.mapv{α β:Type}{m:Row α}(h:RowUp m)(f:List UInt8→β):RowUp (m.map fun p=>(p.1,f p.1)):=List.pairwise_map.2 h
section
variable{w w':World}{G:Nat→Prop}{bd bm:Nat}{d:Dk}{B:List UInt8→Nat}{V:List UInt8→Value}
theorem map_put_here{m:Row Fl}(h:RowUp m){s:List UInt8}{f:Fl}(f':Fl)(hf:getB m s=some f)(g:List UInt8→Value):(putB s f' m).map (fun p=>(p.1,g p.1))=m.map fun p=>(p.1,g p.1):=by
 refine rowUp_same ((putB_rising h s f').mapv g) (h.mapv g) fun p=>?_;simp only[List.mem_map];constructor
 ·rintro⟨q,hq,rfl⟩;rcases putB_mem.1 hq with rfl|⟨hq,_⟩;·exact⟨_,getB_mem hf,rfl⟩
  ·exact⟨q,hq,rfl⟩
 ·rintro⟨q,hq,rfl⟩;by_cases e:q.1=s;·exact⟨(s,f'),putB_mem.2 (.inl rfl),by rw[←e]⟩
  ·exact⟨q,putB_mem.2 (.inr ⟨hq,e⟩),rfl⟩
theorem map_put_new{m:Row Fl}(h:RowUp m)(s:List UInt8)(f:Fl)(g g':List UInt8→Value)(hg: ∀t,t≠s→g' t=g t):(putB s f m).map (fun p=>(p.1,g' p.1))=putB s (g' s) (m.map fun p=>(p.1,g p.1)):=by
 refine rowUp_same ((putB_rising h s f).mapv g') (putB_rising (h.mapv g) _ _) fun p=>?_;rw[putB_mem];simp only[List.mem_map];constructor
 ·rintro⟨q,hq,rfl⟩;rcases putB_mem.1 hq with rfl|⟨hq,hne⟩;·exact .inl rfl
  ·exact .inr ⟨⟨q,hq,by rw[hg _ hne]⟩,hne⟩
 ·rintro(rfl|⟨⟨q,hq,rfl⟩,hne⟩);·exact⟨(s,f),putB_mem.2 (.inl rfl),rfl⟩
  ·exact⟨q,putB_mem.2 (.inr ⟨hq,hne⟩),by rw[hg _ hne]⟩
theorem DkAt.set(h:DkAt w G bd bm d B V)(s:List UInt8)(f':Fl)(v':Value)(bf:Nat)(d':Dk)(hd:d'.files=putB s f' d.files)(hblk:w'.heap[bd]?=some (dkObj bm d'))(hmap:MapS w' bm ((putB s f' d.files).map fun p=>(p.1,.pointer (some ⟨(fun t=>if t=s then bf else B t) p.1,0,none⟩))))(hfl:w'.heap[bf]?=some (flObj v' f'))(hown:OwnB w' 0 v' f'.data)(hsz:w.heap.size≤w'.heap.size)(hk: ∀b,G b→b≠bd→b≠bm→(∀x,getB d.files s=some x→b≠B s∧(V s).ownBlock≠some b)→w'.heap[b]?=w.heap[b]?)(hbf:(∃x,getB d.files s=some x∧bf=B s)∨w.heap.size≤bf)(hv: ∀b,v'.ownBlock=some b→(∃x,getB d.files s=some x∧(V s).ownBlock=some b)∨(w.heap.size≤b∧b≠bf)):DkAt w' (fun b=>G b∨b=bf∨v'.ownBlock=some b) bd bm d' (fun t=>if t=s then bf else B t) (fun t=>if t=s then v' else V t):=by
 have hbl: ∀p∈d.files,B p.1<w.heap.size:=fun p hp=>h.lt _ (h.gB p hp);have hvl: ∀p∈d.files,∀b,(V p.1).ownBlock=some b→b<w.heap.size:=fun p hp b hb=>h.lt _ (h.gV p hp b hb);have hdl:=h.lt _ h.gd;have hml:=h.lt _ h.gm;have oB: ∀p∈d.files,p.1≠s→B p.1≠bf∧ ∀b,v'.ownBlock=some b→B p.1≠b:=fun p hp hne=>by
  have:=hbl p hp;refine⟨?_,fun b hb=>?_⟩
  ·rcases hbf with⟨x,hx,rfl⟩|hbf;·exact h.apB p hp _ (getB_mem hx) hne
   ·omega
  ·rcases hv b hb with⟨x,hx,e⟩|⟨e,_⟩;·exact Ne.symm ((h.nV _ (getB_mem hx) b e).2.2 p hp)
   ·omega
 have oV: ∀p∈d.files,p.1≠s→ ∀b,(V p.1).ownBlock=some b→b≠bf∧v'.ownBlock≠some b:=fun p hp hne b hb=>by
  have:=hvl p hp b hb;refine⟨?_,fun hb'=>?_⟩
  ·rcases hbf with⟨x,hx,rfl⟩|hbf;·exact(h.nV p hp b hb).2.2 _ (getB_mem hx)
   ·omega
  ·rcases hv b hb' with⟨x,hx,e⟩|⟨e,_⟩;·exact h.apV p hp _ (getB_mem hx) hne b hb e
   ·omega
 have kB: ∀p∈d.files,p.1≠s→w'.heap[B p.1]?=w.heap[B p.1]?:=fun p hp hne=>hk _ (h.gB p hp) (h.nB p hp).1 (h.nB p hp).2 fun x hx=>⟨h.apB p hp _ (getB_mem hx) hne,fun e=>(h.nV _ (getB_mem hx) _ e).2.2 p hp rfl⟩;have kV: ∀p∈d.files,p.1≠s→ ∀b,(V p.1).ownBlock=some b→w'.heap[b]?=w.heap[b]?:=fun p hp hne b hb=>hk _ (h.gV p hp b hb) (h.nV p hp b hb).1 (h.nV p hp b hb).2.1 fun x hx=>⟨(h.nV p hp b hb).2.2 _ (getB_mem hx),fun e=>h.apV p hp _ (getB_mem hx) hne b hb e⟩;have bfn:bf≠bd∧bf≠bm:=by
  rcases hbf with⟨x,hx,rfl⟩|hbf;·exact h.nB _ (getB_mem hx)
  ·exact⟨by omega,by omega⟩
 have vn: ∀b,v'.ownBlock=some b→b≠bd∧b≠bm∧b≠bf:=fun b hb=>by
  rcases hv b hb with⟨x,hx,e⟩|⟨e,e'⟩
  ·have:=h.nV _ (getB_mem hx) b e;refine⟨this.1,this.2.1,?_⟩;rcases hbf with⟨x',hx',rfl⟩|hbf;·exact this.2.2 _ (getB_mem hx')
   ·have:=hvl _ (getB_mem hx) b e;omega
  ·exact⟨by omega,by omega,e'⟩
 refine⟨hblk,by rw[hd];exact hmap,?_,?_,?_,?_,.inl h.gd,.inl h.gm,?_,?_,?_,hd▸putB_rising h.up _ _,h.nm,?_,?_⟩
 ·rw[hd];intro p hp;rcases putB_mem.1 hp with rfl|⟨hp,hne⟩;·simpa using hfl
  ·simpa[hne]using(kB p hp hne).trans (h.fl p hp)
 ·rw[hd];intro p hp;rcases putB_mem.1 hp with rfl|⟨hp,hne⟩;·simpa using hown
  ·simpa[hne]using(h.own p hp).keepB (kV p hp hne)
 ·rw[hd];intro p hp q hq hpq;rcases putB_mem.1 hp with rfl|⟨hp,hne⟩<;>rcases putB_mem.1 hq with rfl|⟨hq,hne'⟩;·exact absurd rfl hpq
  ·simpa[hne']using(oB q hq hne').1.symm
  ·simpa[hne]using(oB p hp hne).1
  ·simpa[hne,hne']using h.apB p hp q hq hpq
 ·rw[hd];intro p hp q hq hpq b hb;rcases putB_mem.1 hp with rfl|⟨hp,hne⟩<;>rcases putB_mem.1 hq with rfl|⟨hq,hne'⟩;·exact absurd rfl hpq
  ·simp only[hne',if_true,if_false]at hb⊢;exact fun e=>(oV q hq hne' b e).2 hb
  ·simp only[hne,if_true,if_false]at hb⊢;exact(oV p hp hne b hb).2
  ·simp only[hne,hne',if_false]at hb⊢;exact h.apV p hp q hq hpq b hb
 ·rw[hd];intro p hp;rcases putB_mem.1 hp with rfl|⟨hp,hne⟩;·simp
  ·simp only[hne,if_false];exact .inl (h.gB p hp)
 ·rw[hd];intro p hp b hb;rcases putB_mem.1 hp with rfl|⟨hp,hne⟩;·simp only[if_true]at hb;exact .inr (.inr hb)
  ·simp only[hne,if_false]at hb;exact .inl (h.gV p hp b hb)
 ·rintro b(hb|rfl|hb);·exact Nat.lt_of_lt_of_le (h.lt b hb) hsz
  ·exact(Array.getElem?_eq_some_iff.1 hfl).1
  ·exact(World.ownsRow.lt hown b hb).2
 ·rw[hd];intro p hp;rcases putB_mem.1 hp with rfl|⟨hp,hne⟩;·simpa using bfn
  ·simpa[hne]using h.nB p hp
 ·rw[hd];intro p hp b hb;rcases putB_mem.1 hp with rfl|⟨hp,hne⟩
  ·simp only[if_true]at hb;refine⟨(vn b hb).1,(vn b hb).2.1,fun q hq=>?_⟩;rcases putB_mem.1 hq with rfl|⟨hq,hne'⟩;·simpa using(vn b hb).2.2
   ·simpa[hne']using((oB q hq hne').2 b hb).symm
  ·simp only[hne,if_false]at hb;refine⟨(h.nV p hp b hb).1,(h.nV p hp b hb).2.1,fun q hq=>?_⟩;rcases putB_mem.1 hq with rfl|⟨hq,hne'⟩;·simpa using(oV p hp hne b hb).1
   ·simpa[hne']using(h.nV p hp b hb).2.2 q hq
end
def Dk.made(d:Dk)(s:List UInt8):Dk:=d.put s (d.file s)
def FilePost(w:World)(G:Nat→Prop)(bd bm:Nat)(d:Dk)(s:List UInt8)(e:Ending)(w':World):Prop:= ∃G' B' V' f,e=.returned (.pointer (some ⟨B' s,0,none⟩))∧DkAt w' G' bd bm (d.made s) B' V'∧getB (d.made s).files s=some f∧f=d.file s∧(∀b,G' b→G b∨w.heap.size≤b)∧Keep G w w'
theorem dkfile_any(w:World)(G:Nat→Prop)(bd bm:Nat)(d:Dk)(B:List UInt8→Nat)(V:List UInt8→Value)(h:DkAt w G bd bm d B V)(ho:d.Ok)(s:List UInt8)(hs:s.length≤1000000):Calls Tryz.prog 73 #[.pointer (some ⟨bd,0,none⟩),.string ⟨s.toArray⟩] w (FilePost w G bd bm d s):=by
 obtain⟨c0,c1,c2,c3,c4⟩:=h.cells;have hl:=h.look s hs;have hn0:=ho.num;have HH:=qH h;have HO:=qH ho;have hdl:=h.lt _ h.gd;have hml:=h.lt _ h.gm;cases hg:getB d.files s with
  |some f=>
   have HR:=qH (show FilePost w G bd bm d s (.returned (.pointer (some ⟨B s,0,none⟩))) w by
    have e:d.made s=d:=by
     unfold Dk.made Dk.put Dk.file;rw[hg];have:putB s f d.files=d.files:=rowUp_same (putB_rising h.up _ _) h.up fun p=>by
      rw[putB_mem];constructor
      ·rintro(rfl|h);·exact getB_mem hg
       ·exact h.1
      ·intro hp;by_cases e:p.1=s;·left;exact h.up.key hp (getB_mem hg) e
       ·exact .inr ⟨hp,e⟩
     simp only[Option.getD_some,this]
    exact⟨G,B,V,f,rfl,by rw[e];exact h,by rw[e];exact hg,by unfold Dk.file;rw[hg];rfl,fun _ h=>.inl h,Keep.refl _ _⟩);rw[show ptrOf d B s=.pointer (some ⟨B s,0,none⟩)by unfold ptrOf;rw[hg];rfl,hg]at hl;clear h hg ho;go_enter Tryz.func73,Tryz.ntmps73;go_wp2;go_ret;exact HR.out
  |none=>
   rw[show ptrOf d B s=.pointer none by unfold ptrOf;rw[hg];rfl,hg]at hl;have HG:=qH hg;clear h hg ho;go_enter Tryz.func73,Tryz.ntmps73;go_wp2_with(at_mapUpdate;refine wpList_mapS_put rfl _ _ _ _ _ rfl Tryz.underlying67 bm _ rfl (HH.out.map.block ?c1) ?c2 s rfl ?c3 _ rfl ?_);case c1=>exact heap_alloc_old _ _ hml
   case c2=>simp;unfold maxLen;omega
   case c3=>unfold maxLen;omega
   intro w1 hm1 hg1;have HR:=qH (show FilePost w G bd bm d s (.returned (.pointer (some ⟨w.heap.size,0,none⟩))) w1 by
    have hfn:d.file s=Fl.none:=by unfold Dk.file;rw[HG.out];rfl
    have hs1:w.heap.size+1≤w1.heap.size:=by have:=hg1.size;simpa using this
    have hk1: ∀b,b<w.heap.size→b≠bm→w1.heap[b]?=w.heap[b]?:=fun b hb hne=>(hg1.block b (by simp;omega) (fun e=>hne (by simpa using e))).trans (heap_alloc_old _ _ hb);have hnb:w1.heap[w.heap.size]?=some (flObj (.slice none 0 0) Fl.none):=(hg1.block _ (by simp) (fun e=>absurd (show w.heap.size=bm by simpa using e) (by omega))).trans (heap_alloc_new w _);have key:=HH.out.set (w':=w1) s Fl.none (.slice none 0 0) w.heap.size (d.made s) (by unfold Dk.made;rw[hfn];rfl) ((hk1 bd hdl HH.out.nm).trans HH.out.blk) (by have:=map_put_new HH.out.up s Fl.none (fun t=>.pointer (some ⟨B t,0,none⟩)) (fun t=>.pointer (some ⟨if t=s then w.heap.size else B t,0,none⟩)) (fun t ht=>by simp[ht]);rw[this];simpa using hm1) hnb (OwnB.nil _ _) (by omega) (fun b hb _ h2 _=>hk1 b (HH.out.lt b hb) h2) (.inr (Nat.le_refl _)) (fun b hb=>by cases hb);refine⟨_,_,_,Fl.none,?_,key,?_,hfn.symm,?_,?_⟩;·simp
    ·unfold Dk.made;rw[hfn];exact getB_put_same _ _ _
    ·rintro b(hb|rfl|hb);·exact .inl hb
     ·exact .inr (Nat.le_refl _)
     ·cases hb
    ·exact((Keep.refl G w).alloc _).trans (Keep.of_grown (F:=fun b=>b=bm) hg1 (fun k e=>by simpa using e.symm)) (fun b _ e=>e▸HH.out.gm));clear hm1 hg1;go_wp2;go_ret;exact HR.out
theorem putB_putB{α:Type}{m:Row α}(h:RowUp m)(k:List UInt8)(u v:α):putB k v (putB k u m)=putB k v m:=by
 refine rowUp_same (putB_rising (putB_rising h _ _) _ _) (putB_rising h _ _) fun p=>?_;simp only[putB_mem];constructor
 ·rintro(h|⟨(rfl|h),hn⟩);·exact .inl h
  ·exact absurd rfl hn
  ·exact .inr h
 ·rintro(h|h);·exact .inl h
  ·exact .inr ⟨.inr h,h.2⟩
theorem Byt.keepG{w w':World}{G:Nat→Prop}{A:Option Addr}{n c:Nat}{l:List UInt8}(h:Byt w w.heap.size A n c l)(hA: ∀b off,A=some ⟨b,off,none⟩→ ¬G b)(hk:Keep G w w'):Byt w' w'.heap.size A n c l:=by refine⟨h.len,h.cap,h.max,fun hn=>?_⟩;obtain⟨b,off,e,hb,hc⟩:=h.cell hn;have:=hk.size;exact⟨b,off,e,by omega,fun i hi=>(hk.cell (p:=⟨b,off+i,none⟩) hb (hA b off e)).trans (hc i hi)⟩
def DkPost(w:World)(G:Nat→Prop)(bd:Nat)(d':Dk)(er:Int)(e:Ending)(w':World):Prop:=e=.returned (.int .i64 er)∧DkD w G bd d' w'
theorem Dk.append_no{d:Dk}{s b:List UInt8}(h:d.asked s≠0):d.append s b=d∧d.appendE s b=d.asked s:=by unfold Dk.append Dk.appendE;rw[if_pos h,if_pos h];exact⟨rfl,rfl⟩
theorem Dk.append_full{d:Dk}{s b:List UInt8}(h:d.asked s=0)(hf:d.fullB s b.length=true):d.append s b=d∧d.appendE s b=5:=by unfold Dk.append Dk.appendE;simp[h,hf]
def Dk.added(d:Dk)(s b:List UInt8):Dk:={d.put s {d.file s with data:=(d.file s).data++b}with used:=d.used+b.length}
theorem Dk.append_yes{d:Dk}{s b:List UInt8}(h:d.asked s=0)(hf:d.fullB s b.length=false):d.append s b=(d.added s b).step∧d.appendE s b=if(d.added s b).stepB then 0 else 8:=by unfold Dk.append Dk.appendE;simp only[h,hf,ne_eq,not_true_eq_false,if_false,Bool.false_eq_true];exact⟨rfl,rfl⟩
theorem DkAt.filecells{w:World}{G:Nat→Prop}{bd bm:Nat}{d:Dk}{B:List UInt8→Nat}{V:List UInt8→Value}(h:DkAt w G bd bm d B V){s:List UInt8}{f:Fl}(hf:getB d.files s=some f):w.cell? ⟨B s,0,none⟩=some (V s)∧w.cell? ⟨B s,1,none⟩=some (.int .i64 f.lasts)∧w.cell? ⟨B s,2,none⟩=some (.bool f.stays):=by have key: ∀o,w.cell? ⟨B s,o,none⟩=_:=fun o=>cell_of_row w (B s) o _ _ (0,0) (h.fl _ (getB_mem hf));exact⟨(key 0).trans rfl,(key 1).trans rfl,(key 2).trans rfl⟩
theorem dkapp_any (w : World) (G : Nat → Prop) (bd : Nat) (d : Dk) (h : DkIn w G bd d) (s : List UInt8) (hs : s.length ≤ 1000000) (A : Option Addr) (n c : Nat) (b : List UInt8) (hb : Byt w w.heap.size A n c b) (hA : ∀ b off, A = some ⟨b, off, none⟩ → ¬ G b) (hn : n ≤ 1000000) :
    Calls Tryz.prog 76 #[.pointer (some ⟨bd, 0, none⟩), .string ⟨s.toArray⟩, .slice A n c] w (DkPost w G bd (d.append s b) (d.appendE s b)) := by
  have HI := qH h
  obtain ⟨ho, bm, B, V, h⟩ := h
  have HH := qH h; have HO := qH ho; have HB := qH hb; have HA := qH hA
  have hbl : b.length = n := hb.len
  have hu0 := ho.used0
  have hu1 := ho.max
  clear h ho hb hA
  by_cases h0 : d.asked s = 0
  · have hca := dkasked_any w G bd bm d B V HH.out s
    rw [h0] at hca
    have HCA := qH hca; clear hca
    have hcf := dkfull_any w G bd bm d B V HH.out HO.out s hs n (by omega)
    cases hf : d.fullB s n
    · rw [hf] at hcf
      have HCF := qH hcf; clear hcf
      have hE := Dk.append_yes (b := b) h0 (by rw [hbl]; exact hf)
      have HE := qH hE; clear hE
      have hfn := Dk.full_no hf
      have HFN := qH hfn.2
      have hfm := hfn.1
      clear hfn
      have HZ := qH h0; have HF := qH hf
      clear h0 hf
      go_enter Tryz.func76, Tryz.ntmps76
      go_wp2_with fail
      refine HCA.out.mono ?_
      rintro e w0 ⟨rfl, rfl⟩
      go_wp2_with fail
      refine HCF.out.mono ?_
      rintro e w0 ⟨rfl, rfl⟩
      go_wp2_with fail
      refine (dkfile_any w G bd bm d B V HH.out HO.out s hs).mono ?_
      rintro e w1 ⟨G1, B1, V1, f, rfl, hd1, hf1, hff, hG1, hk1⟩
      have HD1 := qH hd1; have HF1 := qH hf1; have HFF := qH hff; have HG1 := qH hG1; have HK1 := qH hk1
      have HB1 := qH (HB.out.keepG HA.out hk1)
      obtain ⟨x0, x1, x2⟩ := hd1.filecells hf1
      have hs1 := hk1.size
      have HOW := qH (hd1.own _ (getB_mem hf1))
      have hdl : f.data.length ≤ 4194304 := by rw [hff]; have := HO.out.file_len s; omega
      clear hd1 hf1 hff hG1 hk1 x1 x2
      go_wp2_with (at_builtin; refine wpList_app8 rfl (.tmp 27) (.tmp 28) rfl 0 _ f.data rfl HOW.out w1.heap.size _ _ _ b rfl HB1.out ?c3 (Nat.zero_le _) ?_)
      case c3 => omega
      intro v2 w2 ho2 hg2 hv2
      have hne : B1 s ≠ bd := (HD1.out.nB _ (getB_mem HF1.out)).1
      have hV : ∀ k, (V1 s).ownBlock = some k → k ≠ bd ∧ k ≠ bm ∧ k ≠ B1 s := fun k hk => by
        have := HD1.out.nV _ (getB_mem HF1.out) k hk
        exact ⟨this.1, this.2.1, this.2.2 _ (getB_mem HF1.out)⟩
      have hbs : B1 s < w1.heap.size := HD1.out.lt _ (HD1.out.gB _ (getB_mem HF1.out))
      have hbdl : bd < w1.heap.size := HD1.out.lt _ HD1.out.gd
      have hbml : bm < w1.heap.size := HD1.out.lt _ HD1.out.gm
      have hs2 : w1.heap.size ≤ w2.heap.size := hg2.size
      have k2 : ∀ k, k < w1.heap.size → (V1 s).ownBlock ≠ some k → w2.heap[k]? = w1.heap[k]? := fun k hk hn => hg2.block k hk (fun e => hn e.symm)
      have y0 : w2.heap[B1 s]? = some (flObj (V1 s) f) := (k2 _ hbs (fun e => (hV _ e).2.2 rfl)).trans (HD1.out.fl _ (getB_mem HF1.out))
      have y1 : w2.heap[bd]? = some (dkObj bm (d.made s)) := (k2 _ hbdl (fun e => (hV _ e).1 rfl)).trans HD1.out.blk
      have z0 : w2.cell? ⟨B1 s, 0, none⟩ = some (V1 s) := (cell_of_row w2 (B1 s) 0 _ _ (0, 0) y0).trans rfl
      have z0f : w2.frozen? ⟨B1 s, 0, none⟩ = false := frozen_of_row w2 (B1 s) 0 _ _ y0
      have z1 : w2.cell? ⟨bd, 1, none⟩ = some (.int .i64 d.used) := (cell_of_row w2 bd 1 _ _ (0, 0) y1).trans rfl
      have z1f : w2.frozen? ⟨bd, 1, none⟩ = false := frozen_of_row w2 bd 1 _ _ y1
      have HD4 := qH (show ∃ G4 B4 V4, DkAt ((w2.setCell ⟨B1 s, 0, none⟩ v2).setCell ⟨bd, 1, none⟩ (.int .i64 (d.used + n))) G4 bd bm (d.added s b) B4 V4 ∧ (∀ k, G4 k → G1 k ∨ w1.heap.size ≤ k) by
        have hmade : (d.made s).files = putB s (d.file s) d.files := rfl
        have y0' : ((w2.setCell ⟨B1 s, 0, none⟩ v2).setCell ⟨bd, 1, none⟩ (.int .i64 (d.used + n))).heap[B1 s]? = some (flObj v2 { f with data := f.data ++ b }) := by
          rw [Below.heap_setCell _ _ _ _ hne, heap_set_row y0]; rfl
        have y1' : ((w2.setCell ⟨B1 s, 0, none⟩ v2).setCell ⟨bd, 1, none⟩ (.int .i64 (d.used + n))).heap[bd]? = some (dkObj bm (d.added s b)) := by
          rw [heap_set_row ((Below.heap_setCell w2 ⟨B1 s, 0, none⟩ v2 bd (Ne.symm hne)).trans y1)]; simp [Dk.added, Dk.put, Dk.made, hbl]
        have kk : ∀ k, k ≠ bd → k ≠ B1 s → ((w2.setCell ⟨B1 s, 0, none⟩ v2).setCell ⟨bd, 1, none⟩ (.int .i64 (d.used + n))).heap[k]? = w2.heap[k]? := fun k h1 h2 => by
          rw [Below.heap_setCell _ _ _ _ h1, Below.heap_setCell _ _ _ _ h2]
        have hvB : ∀ k, v2.ownBlock = some k → k ≠ bd ∧ k ≠ B1 s := fun k hk => by
          rcases hv2 with e | e
          · have := hV k (e ▸ hk); exact ⟨this.1, this.2.2⟩
          · rw [e] at hk; injection hk with hk; exact ⟨by omega, by omega⟩
        refine ⟨_, _, _, HD1.out.set (w' := (w2.setCell ⟨B1 s, 0, none⟩ v2).setCell ⟨bd, 1, none⟩ (.int .i64 (d.used + n))) s { f with data := f.data ++ b } v2 (B1 s) (d.added s b) ?_ y1' ?_ y0' ?_ ?_ ?_ (.inl ⟨f, HF1.out, rfl⟩) ?_, ?_⟩
        · rw [hmade, putB_putB HH.out.up, HFF.out]; rfl
        · have e := map_put_here HD1.out.up { f with data := f.data ++ b } HF1.out (fun t => (.pointer (some ⟨if t = s then B1 s else B1 t, 0, none⟩)))
          rw [e]
          have e2 : (fun p : List UInt8 × Fl => (p.1, Value.pointer (some ⟨if p.1 = s then B1 s else B1 p.1, 0, none⟩))) = fun p => (p.1, .pointer (some ⟨B1 p.1, 0, none⟩)) := by
            funext p; split
            · next h => rw [h]
            · rfl
          rw [e2]
          exact HD1.out.map.block ((kk bm HD1.out.nm.symm (HD1.out.nB _ (getB_mem HF1.out)).2.symm).trans (k2 bm hbml (fun e => (hV _ e).2.1 rfl)))
        · exact ho2.keepB fun k hk => kk k (hvB k hk).1 (hvB k hk).2
        · simpa [World.setCell] using hs2
        · intro k hk h1 h2 h3
          exact (kk k h1 (h3 f HF1.out).1).trans (k2 k (HD1.out.lt k hk) (h3 f HF1.out).2)
        · intro k hk
          rcases hv2 with e | e
          · exact .inl ⟨f, HF1.out, e ▸ hk⟩
          · rw [e] at hk; injection hk with hk; exact .inr ⟨by omega, by omega⟩
        · rintro k (hk | rfl | hk)
          · exact .inl hk
          · exact .inl (HD1.out.gB _ (getB_mem HF1.out))
          · rcases hv2 with e | e
            · exact .inl (HD1.out.gV _ (getB_mem HF1.out) k (e ▸ hk))
            · rw [e] at hk; injection hk with hk; exact .inr (by omega))
      have HK4 := qH (show Keep G w ((w2.setCell ⟨B1 s, 0, none⟩ v2).setCell ⟨bd, 1, none⟩ (.int .i64 (d.used + n))) by
        have hin : ∀ k, k < w.heap.size → G1 k → G k := fun k hk hg => (HG1.out k hg).elim id (fun h => by omega)
        refine (HK1.out.trans (Keep.of_grown (F := G1) hg2 (fun k e => HD1.out.gV _ (getB_mem HF1.out) k e)) hin).setCell (p := ⟨B1 s, 0, none⟩) (fun h => hin _ h (HD1.out.gB _ (getB_mem HF1.out))) _ |>.setCell (p := ⟨bd, 1, none⟩) (fun h => hin _ h HD1.out.gd) _)
      obtain ⟨A2, c2, e2⟩ := ho2.form
      clear x0 ho2 hg2 hv2 hV hbs hbdl hbml k2 y0 y1
      generalize (f.data ++ b).length = n2 at e2
      subst e2
      go_wp2_with fail
      obtain ⟨G4, B4, V4, hd4, hG4⟩ := HD4.out
      have HD5 := qH hd4; have HG4 := qH hG4
      have hsz4 := HK4.out.size
      clear hd4 hG4 HD4 z0 z0f z1 z1f
      generalize ((w2.setCell ⟨B1 s, 0, none⟩ (.slice A2 n2 c2)).setCell ⟨bd, 1, none⟩ (.int .i64 (d.used + n))) = w4 at *
      have hoa : (d.added s b).Ok := by
        refine HO.out.put s _ _ ?_ (by rw [hbl]; exact hfm) HFN.out ?_
        · show d.used + (b.length : Int) = d.used - (d.file s).data.length + (((d.file s).data ++ b).length : Nat); simp; omega
        · have := HO.out.file_las s; simp; omega
      have HOA := qH hoa
      have hfu := And.intro hoa.fuse0 hoa.fuse1
      clear hoa
      refine (dkstep_any w4 G4 bd bm (d.added s b) B4 V4 HD5.out hfu).mono ?_
      rintro e w5 ⟨rfl, hd5, hk5, hs5⟩
      have HR := qH (show DkD w G bd (d.append s b) w5 from by
        rw [HE.out.1]
        refine ⟨G4, ⟨HOA.out.step, bm, B4, V4, hd5⟩, fun k hk => ?_, HK4.out.trans hk5 (fun k _ e => e ▸ HH.out.gd)⟩
        rcases HG4.out k hk with h | h
        · exact HG1.out k h
        · exact .inr (by omega))
      have HEE := qH HE.out.2
      clear hd5 hk5 hs5 hfu
      cases hst : (d.added s b).stepB
      · rw [hst] at HEE
        go_wp2
        go_ret
        exact ⟨ret_int HEE.out.symm, HR.out⟩
      · rw [hst] at HEE
        go_wp2
        go_ret
        exact ⟨ret_int HEE.out.symm, HR.out⟩
    · rw [hf] at hcf
      have HCF := qH hcf; clear hcf
      have hE := Dk.append_full (b := b) h0 (by rw [hbl]; exact hf)
      have HR := qH (show DkPost w G bd (d.append s b) (d.appendE s b) (.returned (.int .i64 5)) w from ⟨by rw [hE.2], by rw [hE.1]; exact DkD.refl HI.out⟩)
      clear hE h0 hf
      go_enter Tryz.func76, Tryz.ntmps76
      go_wp2_with fail
      refine HCA.out.mono ?_
      rintro e w0 ⟨rfl, rfl⟩
      go_wp2_with fail
      refine HCF.out.mono ?_
      rintro e w0 ⟨rfl, rfl⟩
      go_wp2
      go_ret
      exact HR.out
  · have HCA := qH (dkasked_any w G bd bm d B V HH.out s)
    have hE := Dk.append_no (b := b) h0
    have HR := qH (show DkPost w G bd (d.append s b) (d.appendE s b) (.returned (.int .i64 (d.asked s))) w from ⟨by rw [hE.2], by rw [hE.1]; exact DkD.refl HI.out⟩)
    clear hE
    generalize d.asked s = q at *
    go_enter Tryz.func76, Tryz.ntmps76
    go_wp2_with fail
    refine HCA.out.mono ?_
    rintro e w0 ⟨rfl, rfl⟩
    go_wp2
    go_ret
    exact HR.out
theorem dksync_any(w:World)(G:Nat→Prop)(bd:Nat)(d:Dk)(h:DkIn w G bd d)(s:List UInt8)(hs:s.length≤1000000):Calls Tryz.prog 40 #[.pointer (some ⟨bd,0,none⟩),.string ⟨s.toArray⟩] w (DkPost w G bd (d.sync s) (d.syncE s)):=by
 have HI:=qH h;obtain⟨ho,bm,B,V,h⟩:=h;have HH:=qH h;have HO:=qH ho;have hcf:=dkfound_any w G bd bm d B V h s hs;have hfu:=And.intro ho.fuse0 ho.fuse1;clear h ho;by_cases h0:d.found s=0
 ·rw[if_pos h0,h0]at hcf;have HCF:=qH hcf;clear hcf;have hfz:=Dk.found_zero h0;obtain⟨f,hf⟩:=Option.isSome_iff_exists.1 hfz.2;have hff:d.file s=f:=by unfold Dk.file;rw[hf];rfl
  have hE:d.sync s=(if d.stepB then d.step.put s {f with lasts:=f.data.length,stays:=true}else d.step)∧d.syncE s=if d.stepB then 0 else 8:=by unfold Dk.sync Dk.syncE;simp only[h0,hff,ne_eq,not_true_eq_false,if_false,and_self]
  have HE:=qH hE;have HF:=qH hf;have hdl:f.data.length≤4194304:=by have:=HO.out.file_len s;have:=HO.out.max;rw[hff]at*;omega
  clear hE hf h0 hfz hff;go_enter Tryz.func40,Tryz.ntmps40;go_wp2_with fail;refine HCF.out.mono ?_;rintro e w0⟨rfl,rfl⟩;go_wp2_with fail;refine(dkstep_any w G bd bm d B V HH.out hfu).mono ?_;rintro e w1⟨rfl,hd1,hk1,hs1⟩;have HD1:=qH hd1;have HK1:=qH hk1;have hf1:getB d.step.files s=some f:=by rw[d.step_files.1];exact HF.out
  have HF1:=qH hf1;obtain⟨x0,x1,x2⟩:=hd1.filecells hf1;have x1f:w1.frozen? ⟨B s,1,none⟩=false:=frozen_of_row w1 (B s) 1 _ _ (hd1.fl _ (getB_mem hf1));have x2f:w1.frozen? ⟨B s,2,none⟩=false:=frozen_of_row w1 (B s) 2 _ _ (hd1.fl _ (getB_mem hf1));clear hf1 hd1 hk1;cases hst:d.stepB;·have HR:=qH (show DkPost w G bd (d.sync s) (d.syncE s) (.returned (.int .i64 8)) w1 from by rw[HE.out.1,HE.out.2,hst];exact⟨rfl,G,⟨HO.out.step,bm,B,V,HD1.out⟩,fun _ h=>.inl h,HK1.out.mono (fun b _ e=>e▸HH.out.gd)⟩);clear x0 x1 x2 x1f x2f hst;go_wp2;go_ret;exact HR.out
  ·have HOW:=qH (HD1.out.own _ (getB_mem HF1.out));obtain⟨A1,c1,e1⟩:=HOW.out.form;replace e1:V s=.slice A1 f.data.length c1:=e1;have HR:=qH (show DkPost w G bd (d.sync s) (d.syncE s) (.returned (.int .i64 0)) ((w1.setCell ⟨B s,1,none⟩ (.int .i64 f.data.length)).setCell ⟨B s,2,none⟩ (.bool true))from by
    have hso:=HO.out.sync s;rw[HE.out.1,HE.out.2,hst];rw[HE.out.1,hst]at hso;have hfl:=HD1.out.fl _ (getB_mem HF1.out);have hB:=HD1.out.nB _ (getB_mem HF1.out);have kk: ∀k,k≠B s→((w1.setCell ⟨B s,1,none⟩ (.int .i64 f.data.length)).setCell ⟨B s,2,none⟩ (.bool true)).heap[k]?=w1.heap[k]?:=fun k h1=>by rw[Below.heap_setCell _ _ _ _ h1,Below.heap_setCell _ _ _ _ h1]
    have e:=map_put_here HD1.out.up {f with lasts:=f.data.length,stays:=true} HF1.out (fun t=>(.pointer (some ⟨if t=s then B s else B t,0,none⟩)));have e2:(fun p:List UInt8×Fl=>(p.1,Value.pointer (some ⟨if p.1=s then B s else B p.1,0,none⟩)))=fun p=>(p.1,.pointer (some ⟨B p.1,0,none⟩)):=by
     funext p;split;·next h=>rw[h]
     ·rfl
    have key:=HD1.out.set (w':=(w1.setCell ⟨B s,1,none⟩ (.int .i64 f.data.length)).setCell ⟨B s,2,none⟩ (.bool true)) s {f with lasts:=f.data.length,stays:=true} (V s) (B s) (d.step.put s {f with lasts:=f.data.length,stays:=true}) rfl ((kk bd hB.1.symm).trans HD1.out.blk) (by rw[e,e2];exact HD1.out.map.block (kk bm hB.2.symm)) (by rw[heap_set_row (heap_set_row hfl)];rfl) (HOW.out.keepB fun k hk=>kk k ((HD1.out.nV _ (getB_mem HF1.out) k hk).2.2 _ (getB_mem HF1.out))) (by simp[World.setCell]) (fun k _ _ _ h3=>kk k (h3 f HF1.out).1) (.inl ⟨f,HF1.out,rfl⟩) (fun k hk=>.inl ⟨f,HF1.out,hk⟩);refine⟨rfl,_,⟨hso,bm,_,_,key⟩,?_,?_⟩
    ·rintro k(hk|rfl|hk);·exact .inl hk
     ·exact .inl (HD1.out.gB _ (getB_mem HF1.out))
     ·exact .inl (HD1.out.gV _ (getB_mem HF1.out) k hk)
    ·exact((HK1.out.mono (fun b _ e=>e▸HH.out.gd)).setCell (p:=⟨B s,1,none⟩) (fun _=>HD1.out.gB _ (getB_mem HF1.out)) _).setCell (p:=⟨B s,2,none⟩) (fun _=>HD1.out.gB _ (getB_mem HF1.out)) _);rw[e1]at x0;clear hst e1;go_wp2;go_ret;exact HR.out
 ·rw[if_neg h0]at hcf;have HCF:=qH hcf;clear hcf;have hE:d.sync s=d∧d.syncE s=d.found s:=by unfold Dk.sync Dk.syncE;rw[if_pos h0,if_pos h0];exact⟨rfl,rfl⟩
  have HR:=qH (show DkPost w G bd (d.sync s) (d.syncE s) (.returned (.int .i64 (d.found s))) w from⟨by rw[hE.2],by rw[hE.1];exact DkD.refl HI.out⟩);clear hE;generalize d.found s=q at*;go_enter Tryz.func40,Tryz.ntmps40;go_wp2_with fail;refine HCF.out.mono ?_;rintro e w0⟨rfl,rfl⟩;go_wp2;go_ret;exact HR.out
end Go.Proofs.YtajihpcdplpcdaaGreatDoor
