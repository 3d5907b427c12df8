/- Texts laid as one by shake.py, cut to what the claim needs: RecO. (Names that begin with W and the print's groups (G..x, G..z): laid by the kit's print, cut.) -/
import Derived.Test.YtfflenbfapgilaaGreatZCs
import Derived.Test.YtfflenbfapgilaaGreatZCg
set_option linter.unusedVariables false
set_option linter.unusedSimpArgs false
namespace Go.Proofs.YtfflenbfapgilaaGreat
open Go.RowKit Go.Proofs.YtfflenbfapgilaaGreatW.PrintWords Go.Proofs.YtfflenbfapgilaaGreat.GRR
def kdRec:Kd (Int×ByteArray×Int×List S129×Int×Int×ByteArray):=
 Kd.pair (Kd.int .i64) (Kd.pair Kd.string (Kd.pair (Kd.int .u64) (Kd.pair (Kd.slice 129 k129) (Kd.pair (Kd.int .u64) (Kd.pair (Kd.int .u64) Kd.string)))))
def okRec (x:Int×ByteArray×Int×List S129×Int×Int×ByteArray):Prop:=
 (Lit.int .i64 x.1).wf=true∧x.2.1.size≤maxLen∧(Lit.int .u64 x.2.2.1).wf=true∧(x.2.2.2.1.length≤maxLen∧∀d∈x.2.2.2.1,d.f0.size≤maxLen∧(Lit.int .u64 d.f1).wf=true∧True)∧(Lit.int .u64 x.2.2.2.2.1).wf=true∧(Lit.int .u64 x.2.2.2.2.2.1).wf=true∧x.2.2.2.2.2.2.size≤maxLen
structure IsRec (W:World) (v:Value) (x:(Int×ByteArray×Int×List S129×Int×Int×ByteArray)×Option Addr×Nat):Prop where
 v:v= .agg #[.int .i64 x.1.1,.string x.1.2.1,.int .u64 x.1.2.2.1,.slice x.2.1 x.1.2.2.2.1.length x.2.2,.int .u64 x.1.2.2.2.2.1,.int .u64 x.1.2.2.2.2.2.1,.string x.1.2.2.2.2.2.2]
 c:x.1.2.2.2.1.length≤x.2.2
 row:Kd.C k129 W x.2.1 x.1.2.2.2.1.length x.1.2.2.2.1
 len:x.1.2.2.2.1.length≤maxLen
 kind:(Lit.int .i64 x.1.1).wf=true
 ok:okRec x.1
end Go.Proofs.YtfflenbfapgilaaGreat
