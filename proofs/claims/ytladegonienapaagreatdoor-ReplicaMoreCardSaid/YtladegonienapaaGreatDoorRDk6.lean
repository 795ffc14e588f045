/-
  Layer 4: Sync.
-/
import Derived.Test.YtladegonienapaaGreatDoorRDk3
set_option maxRecDepth 100000
set_option maxHeartbeats 16000000
namespace Go.Proofs.YtladegonienapaaGreatDoor
open Go.RowKit Go.Maps Go.Sort
theorem jM{α:Type}{a b:Row α}(ha:bM a)(hb:bM b)(h: ∀p,p∈a↔p∈b):a=b:=by
 have key: ∀m:Row α,bM m→m.Nodup:=fun m hm=>hm.imp fun{x y}hxy e=>by rw[e,aV]at hxy;cases hxy
 refine List.Perm.eq_of_pairwise (le:=fun(x y:List UInt8×α)=>bytesBefore x.1 y.1=true) (fun x y _ _ h1 h2=>?_) ha hb ((List.perm_ext_iff_of_nodup (key a ha) (key b hb)).2 h);have:=iI h1 h2;rw[aV]at this;cases this
theorem bM.Jv{α β:Type}{m:Row α}(h:bM m)(f:List UInt8→β):bM (m.map fun p=>(p.1,f p.1)):=List.pairwise_map.2 h
section
variable{w w':World}{G:Nat→Prop}{bd bm:Nat}{d:Dk}{B:List UInt8→Nat}{V:List UInt8→Value}
theorem nW{m:Row Fl}(h:bM m){s:List UInt8}{f:Fl}(f':Fl)(hf:aA m s=some f)(g:List UInt8→Value):(aR s f' m).map (fun p=>(p.1,g p.1))=m.map fun p=>(p.1,g p.1):=by
 refine jM ((aY h s f').Jv g) (h.Jv g) fun p=>?_;simp only[List.mem_map];constructor
 ·rintro⟨q,hq,rfl⟩;rcases aF.1 hq with rfl|⟨hq,_⟩;·exact⟨_,ah hf,rfl⟩
  ·exact⟨q,hq,rfl⟩
 ·rintro⟨q,hq,rfl⟩;by_cases e:q.1=s;·exact⟨(s,f'),aF.2 (.inl rfl),by rw[←e]⟩
  ·exact⟨q,aF.2 (.inr ⟨hq,e⟩),rfl⟩
theorem yQ{m:Row Fl}(h:bM m)(s:List UInt8)(f:Fl)(g g':List UInt8→Value)(hg: ∀t,t≠s→g' t=g t):(aR s f m).map (fun p=>(p.1,g' p.1))=aR s (g' s) (m.map fun p=>(p.1,g p.1)):=by
 refine jM ((aY h s f).Jv g') (aY (h.Jv g) _ _) fun p=>?_;rw[aF];simp only[List.mem_map];constructor
 ·rintro⟨q,hq,rfl⟩;rcases aF.1 hq with rfl|⟨hq,hne⟩;·exact .inl rfl
  ·exact .inr ⟨⟨q,hq,by rw[hg _ hne]⟩,hne⟩
 ·rintro(rfl|⟨⟨q,hq,rfl⟩,hne⟩);·exact⟨(s,f),aF.2 (.inl rfl),rfl⟩
  ·exact⟨q,aF.2 (.inr ⟨hq,hne⟩),by rw[hg _ hne]⟩
theorem fB.set(h:fB w G bd bm d B V)(s:List UInt8)(f':Fl)(v':Value)(bf:Nat)(d':Dk)(hd:d'.files=aR s f' d.files)(hblk:w'.heap[bd]?=some (kY bm d'))(hmap:bW w' bm ((aR s f' d.files).map fun p=>(p.1,.pointer (some ⟨(fun t=>if t=s then bf else B t) p.1,0,none⟩))))(hfl:w'.heap[bf]?=some (zq v' f'))(hown:aL w' 0 v' f'.data)(hsz:w.heap.size≤w'.heap.size)(hk: ∀b,G b→b≠bd→b≠bm→(∀x,aA d.files s=some x→b≠B s∧(V s).ownBlock≠some b)→w'.heap[b]?=w.heap[b]?)(hbf:(∃x,aA d.files s=some x∧bf=B s)∨w.heap.size≤bf)(hv: ∀b,v'.ownBlock=some b→(∃x,aA d.files s=some x∧(V s).ownBlock=some b)∨(w.heap.size≤b∧b≠bf)):fB w' (fun b=>G b∨b=bf∨v'.ownBlock=some b) bd bm d' (fun t=>if t=s then bf else B t) (fun t=>if t=s then v' else V t):=by
 have hbl: ∀p∈d.files,B p.1<w.heap.size:=fun p hp=>h.lt _ (h.gB p hp);have hvl: ∀p∈d.files,∀b,(V p.1).ownBlock=some b→b<w.heap.size:=fun p hp b hb=>h.lt _ (h.gV p hp b hb);have hdl:=h.lt _ h.gd;have wQ:=h.lt _ h.gm;have oB: ∀p∈d.files,p.1≠s→B p.1≠bf∧ ∀b,v'.ownBlock=some b→B p.1≠b:=fun p hp hne=>by
  have:=hbl p hp;refine⟨?_,fun b hb=>?_⟩
  ·rcases hbf with⟨x,hx,rfl⟩|hbf;·exact h.O7 p hp _ (ah hx) hne
   ·omega
  ·rcases hv b hb with⟨x,hx,e⟩|⟨e,_⟩;·exact Ne.symm ((h.nV _ (ah hx) b e).2.2 p hp)
   ·omega
 have oV: ∀p∈d.files,p.1≠s→ ∀b,(V p.1).ownBlock=some b→b≠bf∧v'.ownBlock≠some b:=fun p hp hne b hb=>by
  have:=hvl p hp b hb;refine⟨?_,fun hb'=>?_⟩
  ·rcases hbf with⟨x,hx,rfl⟩|hbf;·exact(h.nV p hp b hb).2.2 _ (ah hx)
   ·omega
  ·rcases hv b hb' with⟨x,hx,e⟩|⟨e,_⟩;·exact h.O6 p hp _ (ah hx) hne b hb e
   ·omega
 have kB: ∀p∈d.files,p.1≠s→w'.heap[B p.1]?=w.heap[B p.1]?:=fun p hp hne=>hk _ (h.gB p hp) (h.nB p hp).1 (h.nB p hp).2 fun x hx=>⟨h.O7 p hp _ (ah hx) hne,fun e=>(h.nV _ (ah hx) _ e).2.2 p hp rfl⟩;have kV: ∀p∈d.files,p.1≠s→ ∀b,(V p.1).ownBlock=some b→w'.heap[b]?=w.heap[b]?:=fun p hp hne b hb=>hk _ (h.gV p hp b hb) (h.nV p hp b hb).1 (h.nV p hp b hb).2.1 fun x hx=>⟨(h.nV p hp b hb).2.2 _ (ah hx),fun e=>h.O6 p hp _ (ah hx) hne b hb e⟩;have WH:bf≠bd∧bf≠bm:=by
  rcases hbf with⟨x,hx,rfl⟩|hbf;·exact h.nB _ (ah hx)
  ·exact⟨by omega,by omega⟩
 have vn: ∀b,v'.ownBlock=some b→b≠bd∧b≠bm∧b≠bf:=fun b hb=>by
  rcases hv b hb with⟨x,hx,e⟩|⟨e,e'⟩
  ·have:=h.nV _ (ah hx) b e;refine⟨this.1,this.2.1,?_⟩;rcases hbf with⟨x',hx',rfl⟩|hbf;·exact this.2.2 _ (ah hx')
   ·have:=hvl _ (ah hx) b e;omega
  ·exact⟨by omega,by omega,e'⟩
 refine⟨hblk,by rw[hd];exact hmap,?_,?_,?_,?_,.inl h.gd,.inl h.gm,?_,?_,?_,hd▸aY h.up _ _,h.nm,?_,?_⟩
 ·rw[hd];intro p hp;rcases aF.1 hp with rfl|⟨hp,hne⟩;·simpa using hfl
  ·simpa[hne]using(kB p hp hne).trans (h.fl p hp)
 ·rw[hd];intro p hp;rcases aF.1 hp with rfl|⟨hp,hne⟩;·simpa using hown
  ·simpa[hne]using(h.own p hp).bF (kV p hp hne)
 ·rw[hd];intro p hp q hq hpq;rcases aF.1 hp with rfl|⟨hp,hne⟩<;>rcases aF.1 hq with rfl|⟨hq,hne'⟩;·exact absurd rfl hpq
  ·simpa[hne']using(oB q hq hne').1.symm
  ·simpa[hne]using(oB p hp hne).1
  ·simpa[hne,hne']using h.O7 p hp q hq hpq
 ·rw[hd];intro p hp q hq hpq b hb;rcases aF.1 hp with rfl|⟨hp,hne⟩<;>rcases aF.1 hq with rfl|⟨hq,hne'⟩;·exact absurd rfl hpq
  ·simp only[hne',if_true,if_false]at hb⊢;exact fun e=>(oV q hq hne' b e).2 hb
  ·simp only[hne,if_true,if_false]at hb⊢;exact(oV p hp hne b hb).2
  ·simp only[hne,hne',if_false]at hb⊢;exact h.O6 p hp q hq hpq b hb
 ·rw[hd];intro p hp;rcases aF.1 hp with rfl|⟨hp,hne⟩;·simp
  ·simp only[hne,if_false];exact .inl (h.gB p hp)
 ·rw[hd];intro p hp b hb;rcases aF.1 hp with rfl|⟨hp,hne⟩;·simp only[if_true]at hb;exact .inr (.inr hb)
  ·simp only[hne,if_false]at hb;exact .inl (h.gV p hp b hb)
 ·rintro b(hb|rfl|hb);·exact Nat.lt_of_lt_of_le (h.lt b hb) hsz
  ·exact(Array.getElem?_eq_some_iff.1 hfl).1
  ·exact(World.ownsRow.lt hown b hb).2
 ·rw[hd];intro p hp;rcases aF.1 hp with rfl|⟨hp,hne⟩;·simpa using WH
  ·simpa[hne]using h.nB p hp
 ·rw[hd];intro p hp b hb;rcases aF.1 hp with rfl|⟨hp,hne⟩
  ·simp only[if_true]at hb;refine⟨(vn b hb).1,(vn b hb).2.1,fun q hq=>?_⟩;rcases aF.1 hq with rfl|⟨hq,hne'⟩;·simpa using(vn b hb).2.2
   ·simpa[hne']using((oB q hq hne').2 b hb).symm
  ·simp only[hne,if_false]at hb;refine⟨(h.nV p hp b hb).1,(h.nV p hp b hb).2.1,fun q hq=>?_⟩;rcases aF.1 hq with rfl|⟨hq,hne'⟩;·simpa using(oV p hp hne b hb).1
   ·simpa[hne']using(h.nV p hp b hb).2.2 q hq
end
def Dk.made(d:Dk)(s:List UInt8):Dk:=d.put s (d.file s)
def ui(w:World)(G:Nat→Prop)(bd bm:Nat)(d:Dk)(s:List UInt8)(e:Ending)(w':World):Prop:= ∃G' B' V' f,e=.returned (.pointer (some ⟨B' s,0,none⟩))∧fB w' G' bd bm (d.made s) B' V'∧aA (d.made s).files s=some f∧f=d.file s∧(∀b,G' b→G b∨w.heap.size≤b)∧ai G w w'
theorem Bw(w:World)(G:Nat→Prop)(bd bm:Nat)(d:Dk)(B:List UInt8→Nat)(V:List UInt8→Value)(h:fB w G bd bm d B V)(ho:d.Ok)(s:List UInt8)(hs:s.length≤1000000):Calls Tryz.prog 122 #[.pointer (some ⟨bd,0,none⟩),.string ⟨s.toArray⟩] w (ui w G bd bm d s):=by
 obtain⟨c0,c1,c2,c3,c4⟩:=h.cells;have hl:=h.look s hs;have hn0:=ho.num;have HH:=qH h;have HO:=qH ho;have hdl:=h.lt _ h.gd;have wQ:=h.lt _ h.gm;cases hg:aA d.files s with
  |some f=>
   have HR:=qS (ui w G bd bm d s (.returned (.pointer (some ⟨B s,0,none⟩))) w) (by
    have e:d.made s=d:=by
     unfold Dk.made Dk.put Dk.file;rw[hg];have:aR s f d.files=d.files:=jM (aY h.up _ _) h.up fun p=>by
      rw[aF];constructor
      ·rintro(rfl|h);·exact ah hg
       ·exact h.1
      ·intro hp;by_cases e:p.1=s;·left;exact h.up.key hp (ah hg) e
       ·exact .inr ⟨hp,e⟩
     simp only[Option.getD_some,this]
    exact⟨G,B,V,f,rfl,by rw[e];exact h,by rw[e];exact hg,by unfold Dk.file;rw[hg];rfl,fun _ h=>.inl h,ai.refl _ _⟩);rw[show jB d B s=.pointer (some ⟨B s,0,none⟩)by unfold jB;rw[hg];rfl,hg]at hl;clear h hg ho;go_enter Tryz.func122,Tryz.ntmps122;go_wp2;go_ret;exact HR.o
  |none=>
   rw[show jB d B s=.pointer none by unfold jB;rw[hg];rfl,hg]at hl;have HG:=qH hg;clear h hg ho;go_enter Tryz.func122,Tryz.ntmps122;go_wp2_with(at_mapUpdate;refine aH rfl _ _ _ _ _ rfl Tryz.underlying120 bm _ rfl (HH.o.map.block ?c1) ?c2 s rfl ?c3 _ rfl ?_);case c1=>exact heap_alloc_old _ _ wQ
   case c2=>simp;unfold maxLen;omega
   case c3=>unfold maxLen;omega
   intro w1 hm1 hg1;have HR:=qS (ui w G bd bm d s (.returned (.pointer (some ⟨w.heap.size,0,none⟩))) w1) (by
    have hfn:d.file s=Fl.none:=by unfold Dk.file;rw[HG.o];rfl
    have hs1:w.heap.size+1≤w1.heap.size:=by have:=hg1.size;simpa using this
    have hk1: ∀b,b<w.heap.size→b≠bm→w1.heap[b]?=w.heap[b]?:=fun b hb hne=>(hg1.block b (by simp;omega) (fun e=>hne (by simpa using e))).trans (heap_alloc_old _ _ hb);have hnb:w1.heap[w.heap.size]?=some (zq (.slice none 0 0) Fl.none):=(hg1.block _ (by simp) (fun e=>absurd (show w.heap.size=bm by simpa using e) (by omega))).trans (heap_alloc_new w _);have key:=HH.o.set (w':=w1) s Fl.none (.slice none 0 0) w.heap.size (d.made s) (by unfold Dk.made;rw[hfn];rfl) ((hk1 bd hdl HH.o.nm).trans HH.o.blk) (by have:=yQ HH.o.up s Fl.none (fun t=>.pointer (some ⟨B t,0,none⟩)) (fun t=>.pointer (some ⟨if t=s then w.heap.size else B t,0,none⟩)) (fun t ht=>by simp[ht]);rw[this];simpa using hm1) hnb (aL.nil _ _) (by omega) (fun b hb _ h2 _=>hk1 b (HH.o.lt b hb) h2) (.inr (Nat.le_refl _)) (fun b hb=>by cases hb);refine⟨_,_,_,Fl.none,?_,key,?_,hfn.symm,?_,?_⟩;·simp
    ·unfold Dk.made;rw[hfn];exact gu _ _ _
    ·rintro b(hb|rfl|hb);·exact .inl hb
     ·exact .inr (Nat.le_refl _)
     ·cases hb
    ·exact((ai.refl G w).alloc _).trans (ai.dW (F:=fun b=>b=bm) hg1 (fun k e=>by simpa using e.symm)) (fun b _ e=>e▸HH.o.gm));clear hm1 hg1;go_wp2;go_ret;exact HR.o
theorem D6{α:Type}{m:Row α}(h:bM m)(k:List UInt8)(u v:α):aR k v (aR k u m)=aR k v m:=by
 refine jM (aY (aY h _ _) _ _) (aY h _ _) fun p=>?_;simp only[aF];constructor
 ·rintro(h|⟨(rfl|h),hn⟩);·exact .inl h
  ·exact absurd rfl hn
  ·exact .inr h
 ·rintro(h|h);·exact .inl h
  ·exact .inr ⟨.inr h,h.2⟩
theorem dP.nY{w w':World}{G:Nat→Prop}{A:Option Addr}{n c:Nat}{l:List UInt8}(h:dP w w.heap.size A n c l)(hA: ∀b off,A=some ⟨b,off,none⟩→ ¬G b)(hk:ai G w w'):dP w' w'.heap.size A n c l:=by refine⟨h.len,h.cap,h.max,fun hn=>?_⟩;obtain⟨b,off,e,hb,hc⟩:=h.cell hn;have:=hk.size;exact⟨b,off,e,by omega,fun i hi=>(hk.cell (p:=⟨b,off+i,none⟩) hb (hA b off e)).trans (hc i hi)⟩
def j4(w:World)(G:Nat→Prop)(bd:Nat)(d':Dk)(er:Int)(e:Ending)(w':World):Prop:=e=.returned (.int .i64 er)∧IW w G bd d' w'
theorem Dk.EI{d:Dk}{s b:List UInt8}(h:d.asked s≠0):d.append s b=d∧d.bE s b=d.asked s:=by unfold Dk.append Dk.bE;rw[if_pos h,if_pos h];exact⟨rfl,rfl⟩
theorem Dk.zH{d:Dk}{s b:List UInt8}(h:d.asked s=0)(hf:d.jb s b.length=true):d.append s b=d∧d.bE s b=5:=by unfold Dk.append Dk.bE;simp[h,hf]
def Dk.added(d:Dk)(s b:List UInt8):Dk:={d.put s {d.file s with data:=(d.file s).data++b}with used:=d.used+b.length}
theorem Dk.BJ{d:Dk}{s b:List UInt8}(h:d.asked s=0)(hf:d.jb s b.length=false):d.append s b=(d.added s b).step∧d.bE s b=if(d.added s b).jr then 0 else 8:=by unfold Dk.append Dk.bE;simp only[h,hf,ne_eq,not_true_eq_false,if_false,Bool.false_eq_true];exact⟨rfl,rfl⟩
theorem fB.vJ{w:World}{G:Nat→Prop}{bd bm:Nat}{d:Dk}{B:List UInt8→Nat}{V:List UInt8→Value}(h:fB w G bd bm d B V){s:List UInt8}{f:Fl}(hf:aA d.files s=some f):w.cell? ⟨B s,0,none⟩=some (V s)∧w.cell? ⟨B s,1,none⟩=some (.int .i64 f.lasts)∧w.cell? ⟨B s,2,none⟩=some (.bool f.stays):=by have key: ∀o,w.cell? ⟨B s,o,none⟩=_:=fun o=>cell_of_row w (B s) o _ _ (0,0) (h.fl _ (ah hf));exact⟨(key 0).trans rfl,(key 1).trans rfl,(key 2).trans rfl⟩
theorem EE (w : World) (G : Nat → Prop) (bd : Nat) (d : Dk) (h : kC w G bd d) (s : List UInt8) (hs : s.length ≤ 1000000) (A : Option Addr) (n c : Nat) (b : List UInt8) (hb : dP w w.heap.size A n c b) (hA : ∀ b off, A = some ⟨b, off, none⟩ → ¬ G b) (hn : n ≤ 1000000) :
    Calls Tryz.prog 82 #[.pointer (some ⟨bd, 0, none⟩), .string ⟨s.toArray⟩, .slice A n c] w (j4 w G bd (d.append s b) (d.bE s b)) := by
  have HI := qH h
  obtain ⟨ho, bm, B, V, h⟩ := h
  have HH := qH h; have HO := qH ho; have HB := qH hb; have HA := qH hA
  have hbl : b.length = n := hb.len
  have hu0 := ho.used0
  have hu1 := ho.max
  clear h ho hb hA
  by_cases h0 : d.asked s = 0
  · have Rs := kX w G bd bm d B V HH.o s
    rw [h0] at Rs
    have xV := qH Rs; clear Rs
    have hcf := Bv w G bd bm d B V HH.o HO.o s hs n (by omega)
    cases hf : d.jb s n
    · rw [hf] at hcf
      have Nq := qH hcf; clear hcf
      have hE := Dk.BJ (b := b) h0 (by rw [hbl]; exact hf)
      have HE := qH hE; clear hE
      have hfn := Dk.JR hf
      have KD := qH hfn.2
      have hfm := hfn.1
      clear hfn
      have HZ := qH h0; have HF := qH hf
      clear h0 hf
      go_enter Tryz.func82, Tryz.ntmps82
      go_wp2_with fail
      refine xV.o.mono ?_
      rintro e w0 ⟨rfl, rfl⟩
      go_wp2_with fail
      refine Nq.o.mono ?_
      rintro e w0 ⟨rfl, rfl⟩
      go_wp2_with fail
      refine (Bw w G bd bm d B V HH.o HO.o s hs).mono ?_
      rintro e w1 ⟨G1, B1, V1, f, rfl, hd1, hf1, Ms, hG1, hk1⟩
      have HD1 := qH hd1; have lI := qH hf1; have BZ := qH Ms; have Ab := qH hG1; have EX := qH hk1
      have HB1 := qH (HB.o.nY HA.o hk1)
      obtain ⟨x0, x1, x2⟩ := hd1.vJ hf1
      have hs1 := hk1.size
      have HOW := qH (hd1.own _ (ah hf1))
      have hdl : f.data.length ≤ 4194304 := by rw [Ms]; have := HO.o.zt s; omega
      clear hd1 hf1 Ms hG1 hk1 x1 x2
      go_wp2_with (at_builtin; refine bB rfl (.tmp 27) (.tmp 28) rfl 0 _ f.data rfl HOW.o w1.heap.size _ _ _ b rfl HB1.o ?c3 (Nat.zero_le _) ?_)
      case c3 => omega
      intro v2 w2 ho2 hg2 hv2
      have hne : B1 s ≠ bd := (HD1.o.nB _ (ah lI.o)).1
      have hV : ∀ k, (V1 s).ownBlock = some k → k ≠ bd ∧ k ≠ bm ∧ k ≠ B1 s := fun k hk => by
        have := HD1.o.nV _ (ah lI.o) k hk
        exact ⟨this.1, this.2.1, this.2.2 _ (ah lI.o)⟩
      have hbs : B1 s < w1.heap.size := HD1.o.lt _ (HD1.o.gB _ (ah lI.o))
      have OD : bd < w1.heap.size := HD1.o.lt _ HD1.o.gd
      have OA : bm < w1.heap.size := HD1.o.lt _ HD1.o.gm
      have hs2 : w1.heap.size ≤ w2.heap.size := hg2.size
      have k2 : ∀ k, k < w1.heap.size → (V1 s).ownBlock ≠ some k → w2.heap[k]? = w1.heap[k]? := fun k hk hn => hg2.block k hk (fun e => hn e.symm)
      have y0 : w2.heap[B1 s]? = some (zq (V1 s) f) := (k2 _ hbs (fun e => (hV _ e).2.2 rfl)).trans (HD1.o.fl _ (ah lI.o))
      have y1 : w2.heap[bd]? = some (kY bm (d.made s)) := (k2 _ OD (fun e => (hV _ e).1 rfl)).trans HD1.o.blk
      have z0 : w2.cell? ⟨B1 s, 0, none⟩ = some (V1 s) := (cell_of_row w2 (B1 s) 0 _ _ (0, 0) y0).trans rfl
      have VR : w2.frozen? ⟨B1 s, 0, none⟩ = false := frozen_of_row w2 (B1 s) 0 _ _ y0
      have z1 : w2.cell? ⟨bd, 1, none⟩ = some (.int .i64 d.used) := (cell_of_row w2 bd 1 _ _ (0, 0) y1).trans rfl
      have VQ : w2.frozen? ⟨bd, 1, none⟩ = false := frozen_of_row w2 bd 1 _ _ y1
      have HD4 := qS (∃ G4 B4 V4, fB ((w2.setCell ⟨B1 s, 0, none⟩ v2).setCell ⟨bd, 1, none⟩ (.int .i64 (d.used + n))) G4 bd bm (d.added s b) B4 V4 ∧ (∀ k, G4 k → G1 k ∨ w1.heap.size ≤ k)) (by
        have Om : (d.made s).files = aR s (d.file s) d.files := rfl
        have y0' : ((w2.setCell ⟨B1 s, 0, none⟩ v2).setCell ⟨bd, 1, none⟩ (.int .i64 (d.used + n))).heap[B1 s]? = some (zq v2 { f with data := f.data ++ b }) := by
          rw [Below.heap_setCell _ _ _ _ hne, af y0]; rfl
        have y1' : ((w2.setCell ⟨B1 s, 0, none⟩ v2).setCell ⟨bd, 1, none⟩ (.int .i64 (d.used + n))).heap[bd]? = some (kY bm (d.added s b)) := by
          rw [af ((Below.heap_setCell w2 ⟨B1 s, 0, none⟩ v2 bd (Ne.symm hne)).trans y1)]; simp [Dk.added, Dk.put, Dk.made, hbl]
        have kk : ∀ k, k ≠ bd → k ≠ B1 s → ((w2.setCell ⟨B1 s, 0, none⟩ v2).setCell ⟨bd, 1, none⟩ (.int .i64 (d.used + n))).heap[k]? = w2.heap[k]? := fun k h1 h2 => by
          rw [Below.heap_setCell _ _ _ _ h1, Below.heap_setCell _ _ _ _ h2]
        have hvB : ∀ k, v2.ownBlock = some k → k ≠ bd ∧ k ≠ B1 s := fun k hk => by
          rcases hv2 with e | e
          · have := hV k (e ▸ hk); exact ⟨this.1, this.2.2⟩
          · rw [e] at hk; injection hk with hk; exact ⟨by omega, by omega⟩
        refine ⟨_, _, _, HD1.o.set (w' := (w2.setCell ⟨B1 s, 0, none⟩ v2).setCell ⟨bd, 1, none⟩ (.int .i64 (d.used + n))) s { f with data := f.data ++ b } v2 (B1 s) (d.added s b) ?_ y1' ?_ y0' ?_ ?_ ?_ (.inl ⟨f, lI.o, rfl⟩) ?_, ?_⟩
        · rw [Om, D6 HH.o.up, BZ.o]; rfl
        · have e := nW HD1.o.up { f with data := f.data ++ b } lI.o (fun t => (.pointer (some ⟨if t = s then B1 s else B1 t, 0, none⟩)))
          rw [e]
          have e2 : (fun p : List UInt8 × Fl => (p.1, Value.pointer (some ⟨if p.1 = s then B1 s else B1 p.1, 0, none⟩))) = fun p => (p.1, .pointer (some ⟨B1 p.1, 0, none⟩)) := by
            funext p; split
            · next h => rw [h]
            · rfl
          rw [e2]
          exact HD1.o.map.block ((kk bm HD1.o.nm.symm (HD1.o.nB _ (ah lI.o)).2.symm).trans (k2 bm OA (fun e => (hV _ e).2.1 rfl)))
        · exact ho2.bF fun k hk => kk k (hvB k hk).1 (hvB k hk).2
        · simpa [World.setCell] using hs2
        · intro k hk h1 h2 h3
          exact (kk k h1 (h3 f lI.o).1).trans (k2 k (HD1.o.lt k hk) (h3 f lI.o).2)
        · intro k hk
          rcases hv2 with e | e
          · exact .inl ⟨f, lI.o, e ▸ hk⟩
          · rw [e] at hk; injection hk with hk; exact .inr ⟨by omega, by omega⟩
        · rintro k (hk | rfl | hk)
          · exact .inl hk
          · exact .inl (HD1.o.gB _ (ah lI.o))
          · rcases hv2 with e | e
            · exact .inl (HD1.o.gV _ (ah lI.o) k (e ▸ hk))
            · rw [e] at hk; injection hk with hk; exact .inr (by omega))
      have IG := qS (ai G w ((w2.setCell ⟨B1 s, 0, none⟩ v2).setCell ⟨bd, 1, none⟩ (.int .i64 (d.used + n)))) (by
        have hin : ∀ k, k < w.heap.size → G1 k → G k := fun k hk hg => (Ab.o k hg).elim id (fun h => by omega)
        refine (EX.o.trans (ai.dW (F := G1) hg2 (fun k e => HD1.o.gV _ (ah lI.o) k e)) hin).setCell (p := ⟨B1 s, 0, none⟩) (fun h => hin _ h (HD1.o.gB _ (ah lI.o))) _ |>.setCell (p := ⟨bd, 1, none⟩) (fun h => hin _ h HD1.o.gd) _)
      obtain ⟨A2, c2, e2⟩ := ho2.form
      clear x0 ho2 hg2 hv2 hV hbs OD OA k2 y0 y1
      generalize (f.data ++ b).length = n2 at e2
      subst e2
      go_wp2_with fail
      obtain ⟨G4, B4, V4, hd4, hG4⟩ := HD4.o
      have HD5 := qH hd4; have nE := qH hG4
      have hsz4 := IG.o.size
      clear hd4 hG4 HD4 z0 VR z1 VQ
      generalize ((w2.setCell ⟨B1 s, 0, none⟩ (.slice A2 n2 c2)).setCell ⟨bd, 1, none⟩ (.int .i64 (d.used + n))) = w4 at *
      have hoa : (d.added s b).Ok := by
        refine HO.o.put s _ _ ?_ (by rw [hbl]; exact hfm) KD.o ?_
        · show d.used + (b.length : Int) = d.used - (d.file s).data.length + (((d.file s).data ++ b).length : Nat); simp; omega
        · have := HO.o.GH s; simp; omega
      have PN := qH hoa
      have hfu := And.intro hoa.fuse0 hoa.fuse1
      clear hoa
      refine (tq w4 G4 bd bm (d.added s b) B4 V4 HD5.o hfu).mono ?_
      rintro e w5 ⟨rfl, hd5, hk5, hs5⟩
      have HR := qS (IW w G bd (d.append s b) w5) (by
        rw [HE.o.1]
        refine ⟨G4, ⟨PN.o.step, bm, B4, V4, hd5⟩, fun k hk => ?_, IG.o.trans hk5 (fun k _ e => e ▸ HH.o.gd)⟩
        rcases nE.o k hk with h | h
        · exact Ab.o k h
        · exact .inr (by omega))
      have QX := qH HE.o.2
      clear hd5 hk5 hs5 hfu
      cases hst : (d.added s b).jr
      · rw [hst] at QX
        go_wp2
        go_ret
        exact ⟨dB QX.o.symm, HR.o⟩
      · rw [hst] at QX
        go_wp2
        go_ret
        exact ⟨dB QX.o.symm, HR.o⟩
    · rw [hf] at hcf
      have Nq := qH hcf; clear hcf
      have hE := Dk.zH (b := b) h0 (by rw [hbl]; exact hf)
      have HR := qS (j4 w G bd (d.append s b) (d.bE s b) (.returned (.int .i64 5)) w) (⟨by rw [hE.2], by rw [hE.1]; exact IW.refl HI.o⟩)
      clear hE h0 hf
      go_enter Tryz.func82, Tryz.ntmps82
      go_wp2_with fail
      refine xV.o.mono ?_
      rintro e w0 ⟨rfl, rfl⟩
      go_wp2_with fail
      refine Nq.o.mono ?_
      rintro e w0 ⟨rfl, rfl⟩
      go_wp2
      go_ret
      exact HR.o
  · have xV := qH (kX w G bd bm d B V HH.o s)
    have hE := Dk.EI (b := b) h0
    have HR := qS (j4 w G bd (d.append s b) (d.bE s b) (.returned (.int .i64 (d.asked s))) w) (⟨by rw [hE.2], by rw [hE.1]; exact IW.refl HI.o⟩)
    clear hE
    generalize d.asked s = q at *
    go_enter Tryz.func82, Tryz.ntmps82
    go_wp2_with fail
    refine xV.o.mono ?_
    rintro e w0 ⟨rfl, rfl⟩
    go_wp2
    go_ret
    exact HR.o
theorem Bu(w:World)(G:Nat→Prop)(bd:Nat)(d:Dk)(h:kC w G bd d)(s:List UInt8)(hs:s.length≤1000000):Calls Tryz.prog 73 #[.pointer (some ⟨bd,0,none⟩),.string ⟨s.toArray⟩] w (j4 w G bd (d.sync s) (d.bu s)):=by
 have HI:=qH h;obtain⟨ho,bm,B,V,h⟩:=h;have HH:=qH h;have HO:=qH ho;have hcf:=zz w G bd bm d B V h s hs;have hfu:=And.intro ho.fuse0 ho.fuse1;clear h ho;by_cases h0:d.found s=0
 ·rw[if_pos h0,h0]at hcf;have Nq:=qH hcf;clear hcf;have hfz:=Dk.sQ h0;obtain⟨f,hf⟩:=Option.isSome_iff_exists.1 hfz.2;have Ms:d.file s=f:=by unfold Dk.file;rw[hf];rfl
  have hE:d.sync s=(if d.jr then d.step.put s {f with lasts:=f.data.length,stays:=true}else d.step)∧d.bu s=if d.jr then 0 else 8:=by unfold Dk.sync Dk.bu;simp only[h0,Ms,ne_eq,not_true_eq_false,if_false,and_self]
  have HE:=qH hE;have HF:=qH hf;have hdl:f.data.length≤4194304:=by have:=HO.o.zt s;have:=HO.o.max;rw[Ms]at*;omega
  clear hE hf h0 hfz Ms;go_enter Tryz.func73,Tryz.ntmps73;go_wp2_with fail;refine Nq.o.mono ?_;rintro e w0⟨rfl,rfl⟩;go_wp2_with fail;refine(tq w G bd bm d B V HH.o hfu).mono ?_;rintro e w1⟨rfl,hd1,hk1,hs1⟩;have HD1:=qH hd1;have EX:=qH hk1;have hf1:aA d.step.files s=some f:=by rw[d.mF.1];exact HF.o
  have lI:=qH hf1;obtain⟨x0,x1,x2⟩:=hd1.vJ hf1;have VT:w1.frozen? ⟨B s,1,none⟩=false:=frozen_of_row w1 (B s) 1 _ _ (hd1.fl _ (ah hf1));have Q5:w1.frozen? ⟨B s,2,none⟩=false:=frozen_of_row w1 (B s) 2 _ _ (hd1.fl _ (ah hf1));clear hf1 hd1 hk1;cases hst:d.jr;·have HR:=qS (j4 w G bd (d.sync s) (d.bu s) (.returned (.int .i64 8)) w1) (by rw[HE.o.1,HE.o.2,hst];exact⟨rfl,G,⟨HO.o.step,bm,B,V,HD1.o⟩,fun _ h=>.inl h,EX.o.mono (fun b _ e=>e▸HH.o.gd)⟩);clear x0 x1 x2 VT Q5 hst;go_wp2;go_ret;exact HR.o
  ·have HOW:=qH (HD1.o.own _ (ah lI.o));obtain⟨A1,c1,e1⟩:=HOW.o.form;replace e1:V s=.slice A1 f.data.length c1:=e1;have HR:=qS (j4 w G bd (d.sync s) (d.bu s) (.returned (.int .i64 0)) ((w1.setCell ⟨B s,1,none⟩ (.int .i64 f.data.length)).setCell ⟨B s,2,none⟩ (.bool true))) (by
    have hso:=HO.o.sync s;rw[HE.o.1,HE.o.2,hst];rw[HE.o.1,hst]at hso;have hfl:=HD1.o.fl _ (ah lI.o);have hB:=HD1.o.nB _ (ah lI.o);have kk: ∀k,k≠B s→((w1.setCell ⟨B s,1,none⟩ (.int .i64 f.data.length)).setCell ⟨B s,2,none⟩ (.bool true)).heap[k]?=w1.heap[k]?:=fun k h1=>by rw[Below.heap_setCell _ _ _ _ h1,Below.heap_setCell _ _ _ _ h1]
    have e:=nW HD1.o.up {f with lasts:=f.data.length,stays:=true} lI.o (fun t=>(.pointer (some ⟨if t=s then B s else B t,0,none⟩)));have e2:(fun p:List UInt8×Fl=>(p.1,Value.pointer (some ⟨if p.1=s then B s else B p.1,0,none⟩)))=fun p=>(p.1,.pointer (some ⟨B p.1,0,none⟩)):=by
     funext p;split;·next h=>rw[h]
     ·rfl
    have key:=HD1.o.set (w':=(w1.setCell ⟨B s,1,none⟩ (.int .i64 f.data.length)).setCell ⟨B s,2,none⟩ (.bool true)) s {f with lasts:=f.data.length,stays:=true} (V s) (B s) (d.step.put s {f with lasts:=f.data.length,stays:=true}) rfl ((kk bd hB.1.symm).trans HD1.o.blk) (by rw[e,e2];exact HD1.o.map.block (kk bm hB.2.symm)) (by rw[af (af hfl)];rfl) (HOW.o.bF fun k hk=>kk k ((HD1.o.nV _ (ah lI.o) k hk).2.2 _ (ah lI.o))) (by simp[World.setCell]) (fun k _ _ _ h3=>kk k (h3 f lI.o).1) (.inl ⟨f,lI.o,rfl⟩) (fun k hk=>.inl ⟨f,lI.o,hk⟩);refine⟨rfl,_,⟨hso,bm,_,_,key⟩,?_,?_⟩
    ·rintro k(hk|rfl|hk);·exact .inl hk
     ·exact .inl (HD1.o.gB _ (ah lI.o))
     ·exact .inl (HD1.o.gV _ (ah lI.o) k hk)
    ·exact((EX.o.mono (fun b _ e=>e▸HH.o.gd)).setCell (p:=⟨B s,1,none⟩) (fun _=>HD1.o.gB _ (ah lI.o)) _).setCell (p:=⟨B s,2,none⟩) (fun _=>HD1.o.gB _ (ah lI.o)) _);rw[e1]at x0;clear hst e1;go_wp2;go_ret;exact HR.o
 ·rw[if_neg h0]at hcf;have Nq:=qH hcf;clear hcf;have hE:d.sync s=d∧d.bu s=d.found s:=by unfold Dk.sync Dk.bu;rw[if_pos h0,if_pos h0];exact⟨rfl,rfl⟩
  have HR:=qS (j4 w G bd (d.sync s) (d.bu s) (.returned (.int .i64 (d.found s))) w) (⟨by rw[hE.2],by rw[hE.1];exact IW.refl HI.o⟩);clear hE;generalize d.found s=q at*;go_enter Tryz.func73,Tryz.ntmps73;go_wp2_with fail;refine Nq.o.mono ?_;rintro e w0⟨rfl,rfl⟩;go_wp2;go_ret;exact HR.o
end Go.Proofs.YtladegonienapaaGreatDoor
