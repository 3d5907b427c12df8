/- Texts laid as one by shake.py, cut to what the claim needs: My, TabM. (Names that begin with W and the print's groups (G..x, G..z): laid by the kit's print, cut.) -/
import Derived.Test.YtmeocdkiecknkaaProg
import Derived.Test.YtmeocdkiecknkaaZGc
import Derived.WalkKit
import Derived.WalkSpells
import Derived.WalkLawsBesides
import Derived.Lib.Hide
import Derived.Lib.SlBytesConst
import Derived.Laws.BitsAllLaws
set_option linter.unusedVariables false
set_option linter.unusedSimpArgs false
namespace Go.Proofs.Ytmeocdkiecknkaa
open Go.RowKit Go.Proofs.YtmeocdkiecknkaaW.PrintWords
def Halt (p:Prop):Prop:=p
theorem Halt.mk {p:Prop} (h:Halt p):p:=h
theorem Halt.of {p:Prop} (h:p):Halt p:=h
def nats (l:List Int):List Nat:=l.map Int.toNat
theorem w64 (x:Int) (h1: -9223372036854775808≤x) (h2:x≤9223372036854775807):wrap64 x=x:=by unfold wrap64;omega
theorem C_block (k:IntKind) (W:World) (b:Nat) (e:TypeId) (fr:Nat×Nat) (xs:List Int) (h:W.heap[b]? =some (.cells (xs.map (Value.int k)).toArray e fr)) (hx:xs.length≤9223372036854775807):
  Kd.C (Kd.int k) W (some ⟨b,0,none⟩) xs.length xs:=by
 refine⟨rfl,hx,fun _=>⟨_,rfl,fun j p hj=>⟨[.int k p],rfl,rfl,fun i u hu=> ?_⟩⟩⟩
 match i with
 | 0=>
  have e0:(⟨b,0,none⟩:Addr).add (j*(Kd.int k).sz+0)=⟨b,j,none⟩:=by simp[Addr.add,Kd.int,Kd.scalar];omega
  rw[e0]
  simp only[World.cell?,h,Option.isSome_none,Bool.false_eq_true,if_false]
  simp only[List.getElem?_toArray,List.getElem?_map,hj,Option.map_some]
  simpa using hu
 |i+1=>simp at hu
theorem reps_nums (k:IntKind) (W:World) (base:Nat) (okp:Nat→Prop) (xs:List Int):Reps ((Kd.int k).M W base okp) 1 xs (xs.map (Value.int k)):=by
 refine⟨by simp,fun j p hj=> ?_⟩
 show _=[Value.int k p]
 rw[Nat.mul_one]
 have hj':=(List.getElem?_eq_some_iff.1 hj)
 obtain⟨h1,h2⟩:=hj'
 apply List.ext_getElem?
 intro i
 rw[List.getElem?_take,List.getElem?_drop,List.getElem?_map]
 match i with
 | 0=>simp[hj]
 |i+1=>simp
theorem R_block (k:IntKind) (W:World) (base b:Nat) (e:TypeId) (xs:List Int) (ok:Nat→Prop) (h:W.heap[b]? =some (.cells (xs.map (Value.int k)).toArray e (0,0))) (hb:base≤b) (hx:xs.length≤maxLen) (hok:ok b):
  Kd.R (Kd.int k) e W base ok (.slice (some ⟨b,0,none⟩) xs.length xs.length) xs:=by
 refine⟨fun k hk=> ?_,xs.map (Value.int k),⟨by simp[Kd.int,Kd.scalar], .inr ⟨b,xs.length,_,rfl,hb,h,Nat.le_refl _,hx,by simp[Kd.int,Kd.scalar], ?_⟩⟩,reps_nums ..⟩
 ·simp only[Value.ownBlock,Option.some.injEq]at hk;exact hk ▸ hok
 ·show List.take (xs.length*1) _=_
  rw[Nat.mul_one];exact List.take_of_length_le (by simp)
theorem heap_new (w:World) (o:Obj):(w.alloc o).heap[w.heap.size]? =some o:=by
 show(w.heap.push o)[w.heap.size]? =_
 simp
theorem heap_new_old (w:World) (o:Obj) (k:Nat) (h:k<w.heap.size):(w.alloc o).heap[k]? =w.heap[k]? :=Below.heap_alloc w o k h
theorem heap_size_alloc (w:World) (o:Obj):(w.alloc o).heap.size=w.heap.size+1:=by
 show(w.heap.push o).size=_
 simp
theorem unfrozen_of {W:World} {g:Nat} {cur:Array Value} {e:TypeId} (h:W.heap[g]? =some (.cells cur e (0,0))) (i:Nat):W.frozen? ⟨g,i,none⟩=false:=by
 simp[World.frozen?,h]
theorem info_u8:(Try.prog.info? 5).map (fun i=>(i.zero,i.size,i.bytes))=some (some (.int .u8 0),1,1):=by kernel_rfl
end Go.Proofs.Ytmeocdkiecknkaa
namespace Go.Proofs.Ytmeocdkiecknkaa
def sEq (s t:ByteArray):Bool:=s.data.toList==t.data.toList
theorem sEq_iff {s t:ByteArray}:sEq s t=true↔s=t:=by
 unfold sEq
 rw[beq_iff_eq]
 exact⟨fun h=>ByteArray.ext (Array.ext' h),fun h=>by rw[h]⟩
theorem sEq_refl (s:ByteArray):sEq s s=true:=sEq_iff.2 rfl
theorem sEq_ne {s t:ByteArray}:sEq s t=false↔s≠t:=by
 cases h:sEq s t
 ·simp;intro e;rw[sEq_iff.2 e]at h;cases h
 ·simp;exact sEq_iff.1 h
def isIn (l:List ByteArray) (s:ByteArray):Bool:=l.any (sEq s)
def posOf (l:List ByteArray) (s:ByteArray):Nat:=l.findIdx (sEq s)
theorem isIn_iff {l:List ByteArray} {s:ByteArray}:isIn l s=true↔s∈l:=by
 unfold isIn
 rw[List.any_eq_true]
 exact⟨fun⟨x,hx,h⟩=>by rw[sEq_iff.1 h];exact hx,fun h=>⟨s,h,sEq_refl s⟩⟩
theorem isIn_ne {l:List ByteArray} {s:ByteArray}:isIn l s=false↔s ∉ l:=by
 rw[←isIn_iff];simp
theorem posOf_le (l:List ByteArray) (s:ByteArray):posOf l s≤l.length:=List.findIdx_le_length
theorem posOf_lt {l:List ByteArray} {s:ByteArray} (h:s∈l):posOf l s<l.length:=List.findIdx_lt_length_of_exists ⟨s,h,sEq_refl s⟩
theorem posOf_get {l:List ByteArray} {s:ByteArray} (h:s∈l):l[posOf l s]? =some s:=by
 have hlt:=posOf_lt h
 rw[List.getElem?_eq_getElem hlt]
 have:=List.findIdx_getElem (w:=hlt)
 exact congrArg some (sEq_iff.1 this).symm
theorem posOf_none {l:List ByteArray} {s:ByteArray} (h:s ∉ l):posOf l s=l.length:=by
 unfold posOf
 rw[List.findIdx_eq_length]
 intro x hx
 exact sEq_ne.2 (fun e=>h (by rw[e];exact hx))
theorem posOf_app {l r:List ByteArray} {s:ByteArray} (h:s∈l):posOf (l++r) s=posOf l s:=by
 unfold posOf
 rw[List.findIdx_append,if_pos]
 exact posOf_lt h
theorem posOf_app_not {l r:List ByteArray} {s:ByteArray} (h:s ∉ l):posOf (l++r) s=l.length+posOf r s:=by
 unfold posOf
 rw[List.findIdx_append,if_neg]
 ·omega
 ·have:=posOf_none h
  unfold posOf at this
  omega
def tput (l:List ByteArray) (s:ByteArray):List ByteArray:=if isIn l s then l else l++[s]
theorem tput_in {l:List ByteArray} {s:ByteArray} (h:s∈l):tput l s=l:=by unfold tput;rw[isIn_iff.2 h];rfl
theorem tput_out {l:List ByteArray} {s:ByteArray} (h:s ∉ l):tput l s=l++[s]:=by unfold tput;rw[isIn_ne.2 h];rfl
theorem mem_tput {l:List ByteArray} {s u:ByteArray}:u∈tput l s↔u∈l∨u=s:=by
 by_cases h:s∈l
 ·rw[tput_in h]
  exact⟨.inl,fun h'=>h'.elim id (fun e=>by rw[e];exact h)⟩
 ·rw[tput_out h,List.mem_append];simp
theorem tput_nodup {l:List ByteArray} (s:ByteArray) (h:l.Nodup):(tput l s).Nodup:=by
 by_cases hs:s∈l
 ·rw[tput_in hs];exact h
 ·rw[tput_out hs,List.nodup_append]
  refine⟨h,by simp, ?_⟩
  intro a ha b hb
  simp at hb
  subst hb
  intro e;subst e;exact hs ha
theorem tput_len_le (l:List ByteArray) (s:ByteArray):(tput l s).length≤l.length+1:=by
 unfold tput;split
 ·omega
 ·simp
theorem tput_len_ge (l:List ByteArray) (s:ByteArray):l.length≤(tput l s).length:=by
 unfold tput;split
 ·omega
 ·simp
def tnewOn (l ts:List ByteArray):List ByteArray:=ts.foldl tput l
def tnew (ts:List ByteArray):List ByteArray:=tnewOn [] ts
theorem tnewOn_snoc (l ts:List ByteArray) (s:ByteArray):tnewOn l (ts++[s])=tput (tnewOn l ts) s:=by
 unfold tnewOn;rw[List.foldl_append];rfl
theorem tnew_snoc (ts:List ByteArray) (s:ByteArray):tnew (ts++[s])=tput (tnew ts) s:=tnewOn_snoc _ _ _
theorem tnew_take (ts:List ByteArray) (i:Nat) (h:i<ts.length):tnew (ts.take (i+1))=tput (tnew (ts.take i)) ts[i]:=by
 rw[List.take_succ_eq_append_getElem h,tnew_snoc]
theorem tnewOn_nodup (l ts:List ByteArray) (h:l.Nodup):(tnewOn l ts).Nodup:=by
 unfold tnewOn
 induction ts generalizing l with
 |nil=>exact h
 |cons s ts ih=>exact ih _ (tput_nodup s h)
theorem tnew_nodup (ts:List ByteArray):(tnew ts).Nodup:=tnewOn_nodup [] ts (by simp)
theorem mem_tnewOn (l ts:List ByteArray) (u:ByteArray):u∈tnewOn l ts↔u∈l∨u∈ts:=by
 unfold tnewOn
 induction ts generalizing l with
 |nil=>simp
 | cons s ts ih=>
  rw[List.foldl_cons,ih,mem_tput,List.mem_cons]
  constructor
  ·rintro ((h|h)|h)
   ·exact .inl h
   ·exact .inr (.inl h)
   ·exact .inr (.inr h)
  ·rintro (h|h|h)
   ·exact .inl (.inl h)
   ·exact .inl (.inr h)
   ·exact .inr h
theorem mem_tnew (ts:List ByteArray) (u:ByteArray):u∈tnew ts↔u∈ts:=by
 unfold tnew;rw[mem_tnewOn];simp
theorem tnewOn_len (l ts:List ByteArray):(tnewOn l ts).length≤l.length+ts.length:=by
 unfold tnewOn
 induction ts generalizing l with
 |nil=>simp
 |cons s ts ih=>
  have h1:=ih (tput l s)
  have h2:=tput_len_le l s
  rw[List.foldl_cons,List.length_cons];omega
theorem tnew_len (ts:List ByteArray):(tnew ts).length≤ts.length:=by have:=tnewOn_len [] ts;simpa [tnew]using this
theorem tnewOn_self (l:List ByteArray): ∀(ts:List ByteArray),(l++ts).Nodup→tnewOn l ts=l++ts:=by
 intro ts
 induction ts generalizing l with
 |nil=>intro _;simp[tnewOn]
 | cons s ts ih=>
  intro h
  have hs:s ∉ l:=by
   rw[List.nodup_append]at h
   exact fun hm=>h.2.2 s hm s (by simp) rfl
  show tnewOn (tput l s) ts=_
  rw[tput_out hs,ih (l++[s]) (by simpa using h)]
  simp
theorem tnew_self {l:List ByteArray} (h:l.Nodup):tnew l=l:=by
 have:=tnewOn_self [] l (by simpa using h)
 simpa [tnew]using this
end Go.Proofs.Ytmeocdkiecknkaa
