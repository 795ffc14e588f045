/-
  A world for the witness: the settled one, where the five tables, the kinds' names, the tale's kinds and the two errors that the row lists hold what their initialisers lay; and what the row's list gives a walk.
-/
import Derived.Test.YtcmmclliabhnjaaGreatDoorWTwCc
import Derived.Test.YtcmmclliabhnjaaGreatDoorWClkTold
import Derived.Test.YtcmmclliabhnjaaGreatDoorWTwGa
import Derived.Test.YtcmmclliabhnjaaGreatDoorWTaleT
import Derived.Stop.LaidErr
import Derived.Lib.LaidTab
import Derived.Lib.AppendIntMem
set_option maxRecDepth 100000
set_option maxHeartbeats 16000000
namespace Go.Proofs.YtcmmclliabhnjaaGreatDoor
open Go.RowKit Go.ChangeShapes
def firstInts:List Int:=List.replicate 128 240++List.replicate 66 241++List.replicate 30 2++[19]++List.replicate 12 3++[35,3,3,52,4,4,4,68]++List.replicate 11 241
def rangeInts:List Int:=[128,191,160,191,128,159,144,191,128,143]++List.replicate 22 0
def layInts(l:List Int):Obj→Obj|.cells _ t frozen=>.cells (l.map (Value.int .u8)).toArray t frozen|o=>o
def datVal:DataW Unit→Value|.lit (.int k z)=>.int k z|.lit (.string l)=>.string ⟨l.toArray⟩|_=>.bool false
def datVals:DataW Unit→List Value|.agg l=>l.map datVal|_=>[]
def layVals(d:DataW Unit):Obj→Obj|.cells _ t frozen=>.cells (datVals d).toArray t frozen|o=>o
def layErr(k:Nat):Obj→Obj|.cells _ t frozen=>.cells #[.iface 331 (.pointer (some ⟨k,0,none⟩))] t frozen|o=>o
abbrev rangeS:ByteArray:=⟨#[118,97,108,117,101,32,111,117,116,32,111,102,32,114,97,110,103,101]⟩
abbrev syntaxS:ByteArray:=⟨#[105,110,118,97,108,105,100,32,115,121,110,116,97,120]⟩
noncomputable def lowW:Nat:=(World.holding Tryz.prog default ⟨#[],#[],[]⟩).heap.size
noncomputable def laidWorld(os:Os):World:=let w0:=World.holding Tryz.prog os ⟨#[.cells #[.string rangeS] 333,.cells #[.string syntaxS] 333],#[],[]⟩;{w0 with heap:=((((((((w0.heap.modify 6 (layInts firstInts)).modify 7 (layInts rangeInts)).modify 8 (layVals Rows.laid_math_bits_deBruijn32tab)).modify 9 (layVals Rows.laid_math_bits_deBruijn64tab)).modify 5 (layVals Rows.laid_internal_strconv_uint64pow10)).modify 4 (layErr lowW)).modify 3 (layErr (lowW+1))).modify 1 (layVals Rows.laid_cicerone_event_kindNames)).modify 0 (layVals Rows.laid_cicerone_tale_kinds)}
theorem star7: "*"++ "errors.errorString"= "*errors.errorString":=by decide
theorem row7(u:TypeId)(h:Tryz.prog.typeName? 3 u=some "*errors.errorString"):u=331:=typeName_ptr_named (nm:= "errors.errorString") (by rw[star7];kernel_rfl) (by kernel_rfl) (by decide) u (by rw[star7];exact h)
theorem tab7{W:World}{r:List (String×DataW Unit)}(h:laidMet Tryz.prog (("internal/strconv.uint64pow10",Rows.laid_internal_strconv_uint64pow10)::r) W):Lib.TabBelow Tryz.prog W.heap.size W "internal/strconv.uint64pow10" .u64 Lib.pow10Tab:=Lib.tabBelow_of_tabIs (Lib.tabIs_of_head (g:=5) (by kernel_rfl) (by kernel_rfl) Tryz.underlying324 Tryz.underlying30 (by kernel_rfl) (by kernel_rfl) h)
theorem errR7{W:World}{r:List (String×DataW Unit)}(h:laidMet Tryz.prog (("strconv.ErrRange",Rows.laid_strconv_ErrRange)::r) W): ∃v,W.cell? ⟨4,0,none⟩=some v∧(v=.nilIface∨ ∃t p,v=.iface t p):=by obtain⟨a,s,hv,_⟩:=laid_sentinel (g:=4) (ts:=9) (te:=333) h (by kernel_rfl) (by kernel_rfl) Tryz.underlying219 row7 Tryz.underlying331 Tryz.underlying333 rfl rfl Tryz.underlying9 (by kernel_rfl) (by kernel_rfl);have h0:=World.var?_cell (g:=4) (by kernel_rfl) hv 0;exact⟨_,by simpa using h0,.inr ⟨_,_,rfl⟩⟩
theorem errS7{W:World}{r:List (String×DataW Unit)}(h:laidMet Tryz.prog (("strconv.ErrSyntax",Rows.laid_strconv_ErrSyntax)::r) W): ∃v,W.cell? ⟨3,0,none⟩=some v∧(v=.nilIface∨ ∃t p,v=.iface t p):=by obtain⟨a,s,hv,_⟩:=laid_sentinel (g:=3) (ts:=9) (te:=333) h (by kernel_rfl) (by kernel_rfl) Tryz.underlying219 row7 Tryz.underlying331 Tryz.underlying333 rfl rfl Tryz.underlying9 (by kernel_rfl) (by kernel_rfl);have h0:=World.var?_cell (g:=3) (by kernel_rfl) hv 0;exact⟨_,by simpa using h0,.inr ⟨_,_,rfl⟩⟩
def textData{H:Type}(ss:List (List UInt8)):DataW H:=.agg (ss.map fun s=>.lit (.string s))
theorem cells_of_texts{H:Type}{enc:TypeId×Value→H}{P:Program}{w:World}{base:Nat}{sp:Nat→Bool}{held:Bool}{fuel:Nat}{t e:TypeId}{n:Nat}{cs:List Value}{ss:List (List UInt8)}{p:List MemPlace}(ht:P.underlying t=some (.array n e))(he:P.underlying e=some .string)(hce:P.cellsOf e=1)(hct:P.cellsOf t=n)(h:DataW.trod enc P w base sp held fuel t cs=some (textData ss,p)):cs=ss.map fun s=>Value.string ⟨s.toArray⟩:=by
 cases fuel with
  |zero=>simp[DataW.trod]at h
  |succ fuel=>
   simp only[DataW.trod,ht,hce,hct,Nat.mul_one]at h;split at h
   ·rename_i hl;obtain⟨xs,hm,hx⟩:=Option.map_eq_some_iff.1 h;have hxs:xs.map (·.1)=ss.map fun s=>(DataW.lit (.string s):DataW H):=by have:=congrArg Prod.fst hx;simpa[textData]using this
    have hxl:xs.length=n:=by simpa using Lib.mapM_length hm
    have hzl:ss.length=n:=by have:=congrArg List.length hxs;simp at this;omega
    apply List.ext_getElem?;intro i;by_cases hi:i<n
    ·obtain⟨b,hb,hf⟩:=Lib.mapM_at hm i i (by simp[hi]);obtain⟨z,hc,rfl,_⟩:=DataW.trod_string he hf;have h1:cs[i]?=some (.string z):=by have:=congrArg (·[0]?) hc;simpa[List.getElem?_take,List.getElem?_drop]using this
     have h2:(xs.map (·.1))[i]?=some (DataW.lit (.string z.data.toList):DataW H):=by simp[hb]
     rw[hxs]at h2;simp only[List.getElem?_map,Option.map_eq_some_iff,DataW.lit.injEq,Lit.string.injEq]at h2;obtain⟨z',hz',hzz⟩:=h2;have he2:(⟨z'.toArray⟩:ByteArray)=z:=by rw[hzz]
     simp[h1,hz',he2]
    ·rw[List.getElem?_eq_none (by omega),List.getElem?_eq_none (by simp;omega)]
   ·cases h
theorem names9{W:World}{r:List (String×DataW Unit)}(h:laidMet Tryz.prog (("cicerone/event.kindNames",Rows.laid_cicerone_event_kindNames)::r) W):KNamesAt W:=by
 obtain⟨ps,⟨g',t',cs,fuel,p,q,hg',ht',hvar,hd,_,_⟩,_⟩:=h;obtain rfl:=Option.some.inj ((show Tryz.prog.globalNamed "cicerone/event.kindNames"=some 1 from by kernel_rfl).symm.trans hg');obtain rfl:=Option.some.inj ((show(Tryz.prog.globals[1]?).map (·.type)=some 229 from by kernel_rfl).symm.trans ht');have hc:=cells_of_texts (ss:=([[115,101,101,110],[111,112,101,110,101,100],[102,105,110,105,115,104,101,100],[98,111,117,103,104,116],[114,97,116,101,100],[104,105,100,100,101,110],[117,110,104,105,100,100,101,110],[102,111,108,108,111,119,101,100],[117,110,102,111,108,108,111,119,101,100],[109,117,116,101,100],[117,110,109,117,116,101,100],[108,105,115,116,101,100],[115,116,111,99,107,101,100],[100,101,108,105,115,116,101,100],[102,111,114,103,111,116,116,101,110]]:List (List UInt8))) Tryz.underlying229 Tryz.underlying9 (by kernel_rfl) (by kernel_rfl) hd;intro k hk;have h0:=World.var?_cell (g:=1) (by kernel_rfl) hvar k;rw[h0,show cs[k]?=cs.toList[k]? from by simp,hc];have key: ∀k:Fin 15,(List.map (fun s:List UInt8=>Value.string ⟨s.toArray⟩) ([[115,101,101,110],[111,112,101,110,101,100],[102,105,110,105,115,104,101,100],[98,111,117,103,104,116],[114,97,116,101,100],[104,105,100,100,101,110],[117,110,104,105,100,100,101,110],[102,111,108,108,111,119,101,100],[117,110,102,111,108,108,111,119,101,100],[109,117,116,101,100],[117,110,109,117,116,101,100],[108,105,115,116,101,100],[115,116,111,99,107,101,100],[100,101,108,105,115,116,101,100],[102,111,114,103,111,116,116,101,110]]:List (List UInt8)))[k.val]?=some (.string ⟨(kindNm k.val).toArray⟩):=by intro k;rw[List.getElem?_map,show([[115,101,101,110],[111,112,101,110,101,100],[102,105,110,105,115,104,101,100],[98,111,117,103,104,116],[114,97,116,101,100],[104,105,100,100,101,110],[117,110,104,105,100,100,101,110],[102,111,108,108,111,119,101,100],[117,110,102,111,108,108,111,119,101,100],[109,117,116,101,100],[117,110,109,117,116,101,100],[108,105,115,116,101,100],[115,116,111,99,107,101,100],[100,101,108,105,115,116,101,100],[102,111,114,103,111,116,116,101,110]]:List (List UInt8))[k.val]?=some (kindNm k.val)from by revert k;decide];rfl
 exact key ⟨k,hk⟩
theorem kinds8{W:World}{r:List (String×DataW Unit)}(h:laidMet Tryz.prog (("cicerone/tale.kinds",Rows.laid_cicerone_tale_kinds)::r) W):KindsAt W:=by have ht:Lib.TabIs Tryz.prog W "cicerone/tale.kinds" .i64 [1,2,3,4,0,5,6,7,9,11,11,12,13]:=Lib.tabIs_of_head (g:=0) (by kernel_rfl) (by kernel_rfl) Tryz.underlying225 Tryz.underlying72 (by kernel_rfl) (by kernel_rfl) h;exact fun k hk=>ht.cell (g:=0) (by kernel_rfl) k hk
abbrev list9:List (String×DataW Unit):=[("math/bits.deBruijn32tab",Rows.laid_math_bits_deBruijn32tab),("math/bits.deBruijn64tab",Rows.laid_math_bits_deBruijn64tab),("internal/strconv.uint64pow10",Rows.laid_internal_strconv_uint64pow10),("unicode/utf8.acceptRanges",Rows.laid_unicode_utf8_acceptRanges),("strconv.ErrRange",Rows.laid_strconv_ErrRange),("strconv.ErrSyntax",Rows.laid_strconv_ErrSyntax),("cicerone/event.kindNames",Rows.laid_cicerone_event_kindNames),("cicerone/tale.kinds",Rows.laid_cicerone_tale_kinds),("unicode/utf8.first",Rows.laid_unicode_utf8_first)]
theorem laid9{W:World}(h:laidMetH Tryz.prog list9 W):ErrsAt W∧Lib.TabBelow Tryz.prog W.heap.size W "internal/strconv.uint64pow10" .u64 Lib.pow10Tab∧KNamesAt W∧KindsAt W:=by
 have h':laidMet Tryz.prog list9 W:=by
  have e:list9.filter (fun x=>x.2.handleName?.isSome)=[]:=by kernel_rfl
  unfold laidMetH at h;rw[e]at h;exact h
 have h3:=laidMet.tail (laidMet.tail h');have h5:=laidMet.tail (laidMet.tail h3);have h7:=laidMet.tail (laidMet.tail h5);exact⟨⟨errS7 (laidMet.tail h5),errR7 h5⟩,tab7 h3,names9 h7,kinds8 (laidMet.tail h7)⟩
end Go.Proofs.YtcmmclliabhnjaaGreatDoor
