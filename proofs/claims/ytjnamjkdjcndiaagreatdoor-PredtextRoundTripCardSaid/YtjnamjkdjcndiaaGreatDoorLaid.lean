/-
 What the listed variables of the seat's rows give the walks: the table of powers of ten,and the two errors of strconv.
-/
import Derived.Test.YtjnamjkdjcndiaaGreatDoorRows
import Derived.Test.YtjnamjkdjcndiaaGreatDoorM8
import Derived.ProofKit
import Derived.LaidMore
import Derived.OpenShut
import Derived.Stop.Joined
import Derived.Stop.LaidErr
namespace Go.Proofs.YtjnamjkdjcndiaaGreatDoor
open Go.ChangeShapes Go.WideShapes Go.ChangeAt Go.RowKit
set_option maxRecDepth 100000
def laid7:List (String×DataW Unit):=[("math/bits.deBruijn32tab",Rows.laid_math_bits_deBruijn32tab),("math/bits.deBruijn64tab",Rows.laid_math_bits_deBruijn64tab),("internal/strconv.uint64pow10",Rows.laid_internal_strconv_uint64pow10),("unicode/utf8.acceptRanges",Rows.laid_unicode_utf8_acceptRanges),("strconv.ErrRange",Rows.laid_strconv_ErrRange),("strconv.ErrSyntax",Rows.laid_strconv_ErrSyntax),("unicode/utf8.first",Rows.laid_unicode_utf8_first)]
theorem tPow:(Tryz.prog.globals[1]?).map (·.type)=some 186:=by kernel_rfl
theorem powData {H:Type}:(Rows.laid_internal_strconv_uint64pow10:DataW H)=Lib.tabData .u64 Lib.pow10Tab:=by
 unfold Rows.laid_internal_strconv_uint64pow10 Lib.tabData
 rw[show Lib.pow10Tab=[1,10,100,1000,10000,100000,1000000,10000000,100000000,1000000000,10000000000,100000000000,1000000000000,10000000000000,100000000000000,1000000000000000,10000000000000000,100000000000000000,1000000000000000000,10000000000000000000] by decide +kernel];rfl
theorem gErrType:(Tryz.prog.globals[2]?).map (·.type)=some 92:=by kernel_rfl
theorem gErrType2:(Tryz.prog.globals[3]?).map (·.type)=some 92:=by kernel_rfl
theorem cellsErr:Tryz.prog.cellsOf 218=1:=by kernel_rfl
theorem cellsStr:Tryz.prog.cellsOf 9=1:=by kernel_rfl
theorem starErr : "*" ++ "errors.errorString" = "*errors.errorString":=by decide
theorem rowErr (u:TypeId) (h:Tryz.prog.typeName? 3 u=some "*errors.errorString"):u=216 :=
 typeName_ptr_named (nm:= "errors.errorString") (by rw[starErr];kernel_rfl) (by kernel_rfl) (by decide) u (by rw[starErr];exact h)
theorem env_of_laid {W:World} (h:laidMetH Tryz.prog laid7 W):Env W:=by
 rw[MakeChecks.laidMetH_plain _ _ _ (by kernel_rfl)]at h;have h3:laidMet Tryz.prog (("strconv.ErrRange",.iface "*errors.errorString" (.ptr (.agg [.lit (.string [118,97,108,117,101,32,111,117,116,32,111,102,32,114,97,110,103,101])])))::("strconv.ErrSyntax",.iface "*errors.errorString" (.ptr (.agg [.lit (.string [105,110,118,97,108,105,100,32,115,121,110,116,97,120])]))) :: [("unicode/utf8.first",Rows.laid_unicode_utf8_first)]) W:=h.tail.tail.tail.tail
 obtain ⟨a,s,hv,_⟩:=laid_sentinel h3 glob_rng gErrType2 Tryz.underlying92 rowErr Tryz.underlying216 Tryz.underlying218 rfl rfl Tryz.underlying9 cellsErr cellsStr;obtain ⟨a',s',hv',_⟩:=laid_sentinel h3.tail glob_syn gErrType Tryz.underlying92 rowErr Tryz.underlying216 Tryz.underlying218 rfl rfl Tryz.underlying9 cellsErr cellsStr;refine ⟨?_,⟨_,_,hv'⟩,⟨_,_,hv⟩⟩
 obtain ⟨ps,⟨g0,t0,cs0,f0,p0,q0,hg0,ht0,hv0,hd0,⟨g1,t1,cs1,f1,p1,q1,hg1,ht1,hv1,hd1,⟨g2,t2,cs2,f2,p2,q2,hg2,ht2,hv2,hd2,_,_⟩,_⟩,_⟩,_,_⟩:=h;obtain rfl:=Option.some.inj (tab_glob.symm.trans hg2);obtain rfl:=Option.some.inj (tPow.symm.trans ht2);unfold Tab Lib.TabIs
 rw[powData]at hd2;rw[hv2,←Lib.cells_of_tab Tryz.underlying186 Tryz.underlying166 (by kernel_rfl) (by kernel_rfl) hd2]
end Go.Proofs.YtjnamjkdjcndiaaGreatDoor
