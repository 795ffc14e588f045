/-
  A world for the witness: the settled one, where the five tables, the tale's kinds and the two errors that the row lists hold what their initialisers lay; and what the row's list gives a walk.
-/
import Derived.Test.YtajihpcdplpcdaaGreatDoorTEvMay
import Derived.Test.YtajihpcdplpcdaaGreatDoorTClkLn2
import Derived.Test.YtajihpcdplpcdaaGreatDoorTTaleT
import Derived.Stop.LaidErr
import Derived.Lib.LaidTab
import Derived.Lib.AppendIntMem
set_option maxRecDepth 100000
set_option maxHeartbeats 16000000
namespace Go.Proofs.YtajihpcdplpcdaaGreatDoor
open Go.RowKit Go.ChangeShapes
def firstInts:List Int:=List.replicate 128 240++List.replicate 66 241++List.replicate 30 2++[19]++List.replicate 12 3++[35,3,3,52,4,4,4,68]++List.replicate 11 241
def rangeInts:List Int:=[128,191,160,191,128,159,144,191,128,143]++List.replicate 22 0
def layInts(l:List Int):Obj→Obj|.cells _ t frozen=>.cells (l.map (Value.int .u8)).toArray t frozen|o=>o
def datVal:DataW Unit→Value|.lit (.int k z)=>.int k z|_=>.bool false
def datVals:DataW Unit→List Value|.agg l=>l.map datVal|_=>[]
def layVals(d:DataW Unit):Obj→Obj|.cells _ t frozen=>.cells (datVals d).toArray t frozen|o=>o
def layErr(k:Nat):Obj→Obj|.cells _ t frozen=>.cells #[.iface 284 (.pointer (some ⟨k,0,none⟩))] t frozen|o=>o
abbrev rangeS:ByteArray:=⟨#[118,97,108,117,101,32,111,117,116,32,111,102,32,114,97,110,103,101]⟩
abbrev syntaxS:ByteArray:=⟨#[105,110,118,97,108,105,100,32,115,121,110,116,97,120]⟩
noncomputable def lowW:Nat:=(World.holding Tryz.prog default ⟨#[],#[],[]⟩).heap.size
noncomputable def laidWorld(os:Os):World:=let w0:=World.holding Tryz.prog os ⟨#[.cells #[.string rangeS] 286,.cells #[.string syntaxS] 286],#[],[]⟩;{w0 with heap:=(((((((w0.heap.modify 5 (layInts firstInts)).modify 6 (layInts rangeInts)).modify 7 (layVals Rows.laid_math_bits_deBruijn32tab)).modify 8 (layVals Rows.laid_math_bits_deBruijn64tab)).modify 4 (layVals Rows.laid_internal_strconv_uint64pow10)).modify 3 (layErr lowW)).modify 2 (layErr (lowW+1))).modify 0 (layVals Rows.laid_cicerone_tale_kinds)}
theorem star7: "*"++ "errors.errorString"= "*errors.errorString":=by decide
theorem row7(u:TypeId)(h:Tryz.prog.typeName? 3 u=some "*errors.errorString"):u=284:=typeName_ptr_named (nm:= "errors.errorString") (by rw[star7];kernel_rfl) (by kernel_rfl) (by decide) u (by rw[star7];exact h)
theorem tab7{W:World}{r:List (String×DataW Unit)}(h:laidMet Tryz.prog (("internal/strconv.uint64pow10",Rows.laid_internal_strconv_uint64pow10)::r) W):Lib.TabBelow Tryz.prog W.heap.size W "internal/strconv.uint64pow10" .u64 Lib.pow10Tab:=Lib.tabBelow_of_tabIs (Lib.tabIs_of_head (g:=4) (by kernel_rfl) (by kernel_rfl) Tryz.underlying275 Tryz.underlying30 (by kernel_rfl) (by kernel_rfl) h)
theorem errR7{W:World}{r:List (String×DataW Unit)}(h:laidMet Tryz.prog (("strconv.ErrRange",Rows.laid_strconv_ErrRange)::r) W): ∃v,W.cell? ⟨3,0,none⟩=some v∧(v=.nilIface∨ ∃t p,v=.iface t p):=by obtain⟨a,s,hv,_⟩:=laid_sentinel (g:=3) (ts:=9) (te:=286) h (by kernel_rfl) (by kernel_rfl) Tryz.underlying171 row7 Tryz.underlying284 Tryz.underlying286 rfl rfl Tryz.underlying9 (by kernel_rfl) (by kernel_rfl);have h0:=World.var?_cell (g:=3) (by kernel_rfl) hv 0;exact⟨_,by simpa using h0,.inr ⟨_,_,rfl⟩⟩
theorem errS7{W:World}{r:List (String×DataW Unit)}(h:laidMet Tryz.prog (("strconv.ErrSyntax",Rows.laid_strconv_ErrSyntax)::r) W): ∃v,W.cell? ⟨2,0,none⟩=some v∧(v=.nilIface∨ ∃t p,v=.iface t p):=by obtain⟨a,s,hv,_⟩:=laid_sentinel (g:=2) (ts:=9) (te:=286) h (by kernel_rfl) (by kernel_rfl) Tryz.underlying171 row7 Tryz.underlying284 Tryz.underlying286 rfl rfl Tryz.underlying9 (by kernel_rfl) (by kernel_rfl);have h0:=World.var?_cell (g:=2) (by kernel_rfl) hv 0;exact⟨_,by simpa using h0,.inr ⟨_,_,rfl⟩⟩
theorem kinds8{W:World}{r:List (String×DataW Unit)}(h:laidMet Tryz.prog (("cicerone/tale.kinds",Rows.laid_cicerone_tale_kinds)::r) W):KindsAt W:=by have ht:Lib.TabIs Tryz.prog W "cicerone/tale.kinds" .i64 [1,2,3,4,0,5,6,7,9,11,11,12,13]:=Lib.tabIs_of_head (g:=0) (by kernel_rfl) (by kernel_rfl) Tryz.underlying134 Tryz.underlying58 (by kernel_rfl) (by kernel_rfl) h;exact fun k hk=>ht.cell (g:=0) (by kernel_rfl) k hk
abbrev list8:List (String×DataW Unit):=[("math/bits.deBruijn32tab",Rows.laid_math_bits_deBruijn32tab),("math/bits.deBruijn64tab",Rows.laid_math_bits_deBruijn64tab),("internal/strconv.uint64pow10",Rows.laid_internal_strconv_uint64pow10),("unicode/utf8.acceptRanges",Rows.laid_unicode_utf8_acceptRanges),("strconv.ErrRange",Rows.laid_strconv_ErrRange),("strconv.ErrSyntax",Rows.laid_strconv_ErrSyntax),("cicerone/tale.kinds",Rows.laid_cicerone_tale_kinds),("unicode/utf8.first",Rows.laid_unicode_utf8_first)]
theorem laid8{W:World}(h:laidMetH Tryz.prog list8 W):ErrsAt W∧Lib.TabBelow Tryz.prog W.heap.size W "internal/strconv.uint64pow10" .u64 Lib.pow10Tab∧KindsAt W:=by
 have h':laidMet Tryz.prog list8 W:=by
  have e:list8.filter (fun x=>x.2.handleName?.isSome)=[]:=by kernel_rfl
  unfold laidMetH at h;rw[e]at h;exact h
 have h3:=laidMet.tail (laidMet.tail h');have h5:=laidMet.tail (laidMet.tail h3);exact⟨⟨errS7 (laidMet.tail h5),errR7 h5⟩,tab7 h3,kinds8 (laidMet.tail (laidMet.tail h5))⟩
end Go.Proofs.YtajihpcdplpcdaaGreatDoor
