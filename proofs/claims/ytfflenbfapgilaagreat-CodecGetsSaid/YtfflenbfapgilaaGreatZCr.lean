/- Texts laid as one by shake.py, cut to what the claim needs: RecP, RecR. (Names that begin with W and the print's groups (G..x, G..z): laid by the kit's print, cut.) -/
import Derived.Test.YtfflenbfapgilaaGreatZCp
import Derived.Test.YtfflenbfapgilaaGreatZCq
import Derived.Test.YtfflenbfapgilaaGreatZCg
import Derived.Lib.Strings
set_option linter.unusedVariables false
set_option linter.unusedSimpArgs false
namespace Go.Proofs.YtfflenbfapgilaaGreat
open Go.RowKit Go.Proofs.YtfflenbfapgilaaGreatW.PrintWords Go.Proofs.YtfflenbfapgilaaGreat.GRR
theorem tl_eq {s t:ByteArray}:s.toList=t.toList↔s=t:=by
  rw[Lib.toList_data,Lib.toList_data]
  exact⟨fun h=>ByteArray.ext (Array.ext' h),fun h=>by rw[h]⟩
theorem tl_nil {s:ByteArray}:s.toList=([]:List UInt8)↔s.size=0:=by
  rw[Lib.toList_data]
  constructor
  · intro h
    have:=congrArg List.length h
    rw[Array.length_toList]at this
    exact this
  · intro h
    exact List.eq_nil_of_length_eq_zero (by rw[Array.length_toList];exact h)
theorem rname_is (s:ByteArray):tephraref08_Name.f s=some (nameB s):=by
  unfold tephraref08_Name.f nameB
  split
  · rename_i h
    rw[tl_nil]at h
    congr 1;symm;rw[decide_eq_false_iff_not];omega
  · rename_i h
    rw[tl_nil]at h
    congr 1;rw[Bool.eq_iff_iff,decide_eq_true_eq,decide_eq_true_eq];omega
def mayB (v k:Int) (t:ByteArray) (rule:Int) (deps:List S129) (out when:Int) (tag:ByteArray):Bool:=
  decide (1≤v∧v≤3)&&nameB t&&
    (if k=1 then !(decide (v<2)&&decide (when≠0)||decide (v<3)&&decide (tag.size≠0))&&decide (tag.size≤64)&&depsB v t deps
     else decide (k=2)&&decide (rule=0)&&decide (deps.length=0)&&decide (out=0)&&decide (when=0)&&decide (tag.size=0))
structure RecOk (t:ByteArray) (deps:List S129) (tag:ByteArray):Prop where
  n:deps.length≤3010
  t:t.size≤maxLen
  tag:tag.size≤maxLen
  d: ∀d∈deps,d.f0.size≤maxLen
theorem wr1 (i n:Nat) (h:i<n) (hn:n≤9223372036854775807):wrap64 ((i:Int)+1)=((i+1:Nat):Int):=by unfold wrap64;omega
theorem names_take {l:List S129} {i:Nat} (h:i<l.length):(l.take (i+1)).map (·.f0)=(l.take i).map (·.f0)++[l[i].f0]:=by
  rw[List.take_succ_eq_append_getElem h,List.map_append];rfl
section
variable (v k0:Int) (t:ByteArray) (rule:Int) (l:List S129) (out when:Int) (tag:ByteArray)
end
structure RecFew (t:ByteArray) (deps:List S129) (tag:ByteArray):Prop where
  n:deps.length≤60
  t:t.size≤300
  tag:tag.size≤300
  d: ∀d∈deps,d.f0.size≤300
end Go.Proofs.YtfflenbfapgilaaGreat
namespace Go.Proofs.YtfflenbfapgilaaGreat
open Go.RowKit Go.Proofs.YtfflenbfapgilaaGreatW.PrintWords Go.Proofs.YtfflenbfapgilaaGreat.GRR
section
variable (a0 b0:Int) (a1 b1:ByteArray) (a2 b2:Int) (a3 b3:List S129) (a4 b4 a5 b5:Int) (a6 b6:ByteArray)
end
end Go.Proofs.YtfflenbfapgilaaGreat
