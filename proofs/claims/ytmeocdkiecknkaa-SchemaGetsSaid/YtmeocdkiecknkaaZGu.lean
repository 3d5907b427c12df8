/- Texts laid as one by shake.py, cut to what the claim needs: SchF, SchE2, SchY, WkD, SchZ, SchG, SchH. (Names that begin with W and the print's groups (G..x, G..z): laid by the kit's print, cut.) -/
import Derived.Test.YtmeocdkiecknkaaZGs
import Derived.Test.YtmeocdkiecknkaaZGh
import Derived.Laws.IdiomStrings
import Derived.Test.YtmeocdkiecknkaaZGt
set_option linter.unusedVariables false
set_option linter.unusedSimpArgs false
namespace Go.Proofs.Ytmeocdkiecknkaa
open Go.RowKit Go.Proofs.YtmeocdkiecknkaaW.PrintWords Go.Proofs.Ytmeocdkiecknkaa.GRR
theorem strs_l0 (l:List (List Int)) (hl:l.length≤1000000): ∀(d i k:Nat),l.length=i+d→d<k→tephralaw09_strings.l0 k ((l.take i).map strOfNums) l (l.length:Int) (i:Int)=some (l.map strOfNums):=by
 intro d
 induction d with
 |zero=>
  intro i k hi hk
  obtain⟨k,rfl⟩: ∃m,k=m+1:=⟨k-1,by omega⟩
  rw[List.take_of_length_le (by omega)]
  simp only[tephralaw09_strings.l0]
  rw[if_neg (by omega)]
 |succ d ih=>
  intro i k hi hk
  obtain⟨k,rfl⟩: ∃m,k=m+1:=⟨k-1,by omega⟩
  have hlt:i<l.length:=by omega
  have hrd:rd_L5 l (i:Int)=l[i]:=by simp[rd_L5,hlt]
  have hlen:((l.take i).map strOfNums).length<8796093022208:=by rw[List.length_map,List.length_take];omega
  simp only[tephralaw09_strings.l0]
  rw[if_pos (by omega),if_pos (by omega),if_pos (by omega),if_pos hlen,hrd,wr1 i l.length hlt (by omega)]
  have htk:(l.take i).map strOfNums++[strOfNums l[i]]=(l.take (i+1)).map strOfNums:=by rw[List.take_succ_eq_append_getElem hlt,List.map_append,List.map_singleton]
  rw[htk]
  exact ih (i+1) k (by omega) (by omega)
theorem strs_is (l:List (List Int)) (hl:l.length≤1000000):tephralaw09_strings.f (l.length+1) l=some (l.map strOfNums):=strs_l0 l hl l.length 0 _ (by omega) (by omega)
theorem same_l0 (l:List ByteArray) (hl:l.length≤1000000): ∀(d i k:Nat),l.length=i+d→d<k→tephraref04_Same.l0 k l l (i:Int)=some true:=by
 intro d
 induction d with
 |zero=>
  intro i k hi hk
  obtain⟨k,rfl⟩: ∃m,k=m+1:=⟨k-1,by omega⟩
  simp only[tephraref04_Same.l0]
  rw[if_neg (by omega)]
 |succ d ih=>
  intro i k hi hk
  obtain⟨k,rfl⟩: ∃m,k=m+1:=⟨k-1,by omega⟩
  simp only[tephraref04_Same.l0]
  rw[if_pos (by omega),if_pos (by omega),if_pos (by omega),if_pos trivial,wr1 i l.length (by omega) (by omega)]
  exact ih (i+1) k (by omega) (by omega)
theorem same4_is (l:List ByteArray) (hl:l.length≤1000000):tephraref04_Same.f (l.length+1) l l=some true:=by
 unfold tephraref04_Same.f
 rw[if_pos rfl]
 exact same_l0 l hl l.length 0 _ (by omega) (by omega)
def fewB (l:List ByteArray):Bool:=l.all (fun s=>decide (s.size≤3000))&&decide (l.length≤40)
theorem few_l0 (l:List ByteArray) (hl:l.length≤9223372036854775807): ∀(d i k:Nat),l.length=i+d→d<k→(∀s∈l.take i,s.size≤3000)→tephralaw09_few.l0 k l l (l.length:Int) (i:Int)=some (fewB l):=by
 intro d
 induction d with
 |zero=>
  intro i k hi hk hs
  obtain⟨k,rfl⟩: ∃m,k=m+1:=⟨k-1,by omega⟩
  rw[List.take_of_length_le (by omega)]at hs
  have ha:l.all (fun s=>decide (s.size≤3000))=true:=List.all_eq_true.2 (fun s h=>decide_eq_true (hs s h))
  simp only[tephralaw09_few.l0]
  rw[if_neg (by omega)]
  unfold fewB
  rw[ha,Bool.true_and]
  congr 1
  rw[Bool.eq_iff_iff,decide_eq_true_eq,decide_eq_true_eq];omega
 | succ d ih=>
  intro i k hi hk hs
  obtain⟨k,rfl⟩: ∃m,k=m+1:=⟨k-1,by omega⟩
  have hlt:i<l.length:=by omega
  have hrd:rdOf ByteArray.empty l (i:Int)=l[i]:=by simp[rdOf,hlt]
  simp only[tephralaw09_few.l0]
  rw[if_pos (by omega),if_pos (by omega),if_pos (by omega),hrd,wr1 i l.length hlt hl]
  split
  ·rename_i hg
   unfold fewB
   have:l.all (fun s=>decide (s.size≤3000))=false:=by
    rw[List.all_eq_false]
    exact⟨l[i],List.getElem_mem _,by simp;omega⟩
   rw[this];rfl
  ·refine ih (i+1) k (by omega) (by omega) ?_
   rw[List.take_succ_eq_append_getElem hlt]
   intro x hx
   rcases List.mem_append.1 hx with hx|hx
   ·exact hs x hx
   ·simp at hx;subst hx;omega
theorem few_is (l:List ByteArray) (hl:l.length≤9223372036854775807):tephralaw09_few.f (l.length+1) l=some (fewB l):=few_l0 l hl l.length 0 _ (by omega) (by omega) (by simp)
theorem info_str9:(Try.prog.info? 9).map (fun i=>(i.zero,i.size,i.bytes))=some (some (.string ⟨#[]⟩),1,16):=by kernel_rfl
set_option maxRecDepth 100000 in
set_option maxHeartbeats 1000000 in
theorem texts9_any {w:World} {S:Nat→Prop} {g:Nat} {l:List ByteArray} (h:Tab w S g l):
  Calls Try.prog 36 #[.pointer (some ⟨g,0,none⟩)] w fun e w'=>∃v,e= .returned v∧Kd.R Kd.string 9 w' w.heap.size (fun _=>True) v l∧Below w.heap.size w w':=by
 have hlen:=h.len
 have HT:=Lib.hid h
 have HLN:=Lib.hid (fun(W:World) (hb:Below w.heap.size w W)=>len_any (h.keep (Kp.of_below hb (fun _=>False)) (fun _ _ h=>h)))
 have HTI:=Lib.hid (fun(W:World) (hb:Below w.heap.size w W) i hi=>text_in (h.keep (Kp.of_below hb (fun _=>False)) (fun _ _ h=>h)) i hi)
 clear h
 go_enter Try.func36,Try.ntmps36
 go_wp2_with fail
 have hb0:=(Below.refl w.heap.size w).alloc (Nat.le_refl _) (.cells #[] 9)
 refine(HLN.out _ hb0).mono ?_
 rintro e w2 ⟨rfl,rfl⟩
 have hR0:=R_empty Kd.string (w.alloc (.cells #[] 9)) w.heap.size w.heap.size 9 (fun _=>True) (heap_new _ _) (Nat.le_refl _) trivial
 have HR0:=Lib.hid hR0
 have HB0:=Lib.hid hb0
 clear hR0 hb0
 go_wp2_with fail
 go_loopw [3,10] (fun u3 u10 wr=>∃(i:Nat),i≤l.length∧u10= .int .i64 i∧Hid (Kd.R Kd.string 9 wr w.heap.size (fun _=>True) u3 (l.take i))∧Hid (Below w.heap.size w wr)) (fun _ v _=>l.length-(intOf v).toNat)
 case atStart=>exact⟨0,by omega,rfl,HR0,HB0⟩
 case round=>
  obtain⟨i,hi,rfl,HR,HB⟩:=hrel
  by_cases hlt:i<l.length
  ·have h1:=HTI.out _ HB.out i hlt
   have htk:=List.take_succ_eq_append_getElem hlt
   obtain⟨s,hs⟩: ∃s,l[i]=s:=⟨_,rfl⟩
   rw[hs]at h1 htk
   have H1:=Lib.hid h1
   have HTK:=Lib.hid htk
   have hlk:(l.take i).length=i:=by rw[List.length_take];omega
   have HLK:=Lib.hid hlk
   have hw1:IntKind.u64.wrap (i:Int)=(i:Int):=by rw[IntKind.wrap_u64];omega
   clear h1 htk hs hlk
   generalize l.take i=P at HR HTK HLK
   obtain⟨A3,c3,rfl⟩:=Kd.R_slice HR.out
   go_wp2_with fail
   refine H1.out.mono ?_
   rintro e w2 ⟨rfl,rfl⟩
   go_wp2_with (at_builtin;refine Halt.mk ?_)
   refine Halt.of ?_
   have hb6:Below wr.heap.size wr (wr.alloc (.cells #[.string s] 9)):=(Below.refl _ _).alloc (Nat.le_refl _) _
   have hk6:(wr.alloc (.cells #[.string s] 9)).heap[wr.heap.size]? =some (.cells #[.string s] 9 (0,0)):=heap_new _ _
   have hB6:=HB.out.trans (hb6.mono HB.out.size)
   refine Kd.R_append_rows Kd.string (w0:=w) w.heap.size rfl (.tmp 20) (.tmp 22) 45 9 (.string ⟨#[]⟩) 16 rfl Try.underlying45 info_str9 rfl (by decide) (by omega) _ P [s] _ _ _ (fun _=>True) (fun _=>False) rfl rfl (Kd.R_below HR.out hb6) (row_val s hk6) ?_ (fun _ h=>h.elim) (fun _ _=>trivial) hB6 hB6.size (by rw[HLK.out];omega) ?_
   ·rintro _ _ ⟨rfl,rfl⟩;rfl
   intro v7 w8 hO8 hB8 _ _
   rw[←HTK.out]at hO8
   have HO8:=Lib.hid hO8
   have HB8:=Lib.hid hB8
   clear hO8 hB8 hb6 hk6 hB6 HTK HLK
   go_wp2_with fail
   go_roundw
   case rel=>exact⟨i+1,by omega,by go_num,HO8,HB8⟩
   case measure=>simp[intOf];omega
  ·obtain rfl:i=l.length:=by omega
   rw[List.take_length]at HR
   go_wp2_with fail
   go_ret
   exact⟨_,rfl,HR.out,HB.out⟩
theorem ints_nats (l:List Int) (h: ∀x∈l,0≤x∧x<256):ints (nats l)=l:=by
 induction l with
 |nil=>rfl
 |cons a r ih=>
  have h1:=h a List.mem_cons_self
  have h2:=ih (fun x hx=>h x (List.mem_cons_of_mem _ hx))
  have e:ints (nats (a::r))=((a.toNat:Nat):Int)::ints (nats r):=by simp[ints,nats]
  rw[e,h2]
  congr 1
  omega
theorem strs_inj {l1 l2:List Int} (h1: ∀x∈l1,0≤x∧x<256) (h2: ∀x∈l2,0≤x∧x<256):((strOfNums l1).toList==(strOfNums l2).toList)=decide (l1=l2):=by
 rw[Bool.eq_iff_iff,beq_iff_eq,decide_eq_true_eq]
 constructor
 ·intro h
  rw[←ints_nats l1 h1,←ints_nats l2 h2]at h ⊢
  have hb: ∀(l:List Int),(∀x∈l,0≤x∧x<256)→∀x∈nats l,x<256:=by
   intro l hl x hx
   simp only[nats,List.mem_map]at hx
   obtain⟨y,hy,rfl⟩:=hx
   have:=hl y hy
   omega
  rw[GVB.str_inj (nats l1) (nats l2) (hb l1 h1) (hb l2 h2) h]
 ·rintro rfl;rfl
set_option maxHeartbeats 2000000 in
set_option maxRecDepth 100000 in
theorem eqf_any (A1 A2:Option Addr) (c1 c2:Nat) (l1 l2:List (List Int)) (w:World) (hC1:Kd.C kRows w A1 l1.length l1) (hC2:Kd.C kRows w A2 l2.length l2) (hb1: ∀p∈l1,∀x∈p,0≤x∧x<256) (hb2: ∀p∈l2,∀x∈p,0≤x∧x<256):
  Calls Try.prog 74 #[.slice A1 l1.length c1, .slice A2 l2.length c2, .func (.func 75) #[] #[]] w fun e w'=>e= .returned (.bool (decide (l1=l2)))∧Below w.heap.size w w':=by
 have H1:=Lib.hid hC1
 have H2:=Lib.hid hC2
 have HB1:=Lib.hid hb1
 have HB2:=Lib.hid hb2
 have hm1:=hC1.2.1
 have hm2:=hC2.2.1
 clear hC1 hC2 hb1 hb2
 by_cases hlen:l1.length=l2.length
 ·have hld:decide ((l1.length:Int)=(l2.length:Int))=true:=decide_eq_true (by omega)
  have hlq:((l1.length:Int) !=(l2.length:Int))=false:=by simp;omega
  have HLN:=Lib.hid hlen
  clear hlen
  go_enter Try.func74,Try.ntmps74
  go_wp2_with fail
  go_loopw [17] (fun u wr=>∃(i:Nat),i≤l1.length∧u= .int .i64 i∧Hid (l1.take i=l2.take i)∧Hid (Below w.heap.size w wr)) (fun v _=>l1.length-(intOf v).toNat)
  case atStart=>exact⟨0,by omega,rfl,Lib.hid rfl,Lib.hid (Below.refl _ _)⟩
  case round=>
   obtain⟨i,hi,rfl,HE,HB⟩:=hrel
   by_cases hlt:i<l1.length
   ·have hlt2:i<l2.length:=by have:=HLN.out;omega
    obtain⟨ad1,B1,d1,hA1,hc1,hl1,hr1⟩:=at_L5 (Kd.C_below H1.out HB.out) (i:Int) (by omega) (by omega)
    obtain⟨ad2,B2,d2,hA2,hc2,hl2,hr2⟩:=at_L5 (Kd.C_below H2.out HB.out) (i:Int) (by omega) (by omega)
    subst hA1 hA2
    have e1:rd_L5 l1 (i:Int)=l1[i]:=by simp[rd_L5,hlt]
    have e2:rd_L5 l2 (i:Int)=l2[i]:=by simp[rd_L5,hlt2]
    rw[e1,Int.toNat_natCast]at hc1
    rw[e2,Int.toNat_natCast]at hc2
    rw[e1]at hl1 hr1
    rw[e2]at hl2 hr2
    have hp1:=HB1.out l1[i] (List.getElem_mem _)
    have hp2:=HB2.out l2[i] (List.getElem_mem _)
    have ht1:l1.take (i+1)=l1.take i++[l1[i]]:=List.take_succ_eq_append_getElem hlt
    have ht2:l2.take (i+1)=l2.take i++[l2[i]]:=List.take_succ_eq_append_getElem hlt2
    have hne:l1[i]≠l2[i]→l1≠l2:=fun h e=>h (by subst e;rfl)
    generalize l1[i]=p1 at*
    generalize l2[i]=p2 at*
    have HQ:=Lib.hid (fun(W:World) (hb:Below _ _ W)=>bytes_Equal.calls B1 d1 p1 B2 d2 p2 _ W (Kd.C_below hr1 hb) hl1 (Kd.C_below hr2 hb) hl2 (show bytes_Equal.f p1 p2=some (decide (p1=p2))by unfold bytes_Equal.f;rw[strs_inj hp1 hp2]))
    have HT1:=Lib.hid ht1
    have HT2:=Lib.hid ht2
    have HNE:=Lib.hid hne
    have hdl:decide ((i:Int)<(l1.length:Int))=true:=decide_eq_true (by omega)
    clear e1 e2 hl1 hr1 hl2 hr2 hp1 hp2 ht1 ht2 hne
    by_cases hpe:p1=p2
    ·rw[show decide (p1=p2)=true from decide_eq_true hpe]at HQ
     have HPE:=Lib.hid hpe
     clear hpe
     go_wp2_with fail
     refine(HQ.out _ (Below.refl _ _)).mono ?_
     rintro e w5 ⟨rfl,hdr⟩
     have HB5:=Lib.hid (HB.out.trans (hdr.below.mono HB.out.size))
     clear hdr HQ hc1 hc2
     go_wp2_with fail
     go_roundw
     case rel=>exact⟨i+1,by omega,by go_num,Lib.hid (by rw[HT1.out,HT2.out,HE.out,HPE.out]),HB5⟩
     case measure=>simp[intOf];omega
    ·rw[show decide (p1=p2)=false from decide_eq_false hpe]at HQ
     have hne:=HNE.out hpe
     have HNQ:=Lib.hid hne
     clear hpe hne
     go_wp2_with fail
     refine(HQ.out _ (Below.refl _ _)).mono ?_
     rintro e w5 ⟨rfl,hdr⟩
     have HB5:=Lib.hid (HB.out.trans (hdr.below.mono HB.out.size))
     clear hdr HQ hc1 hc2
     go_wp2_with fail
     go_ret
     rw[show decide (l1=l2)=false from decide_eq_false HNQ.out]
     exact⟨rfl,HB5.out⟩
   ·obtain rfl:i=l1.length:=by omega
    have he:=HE.out
    have hl:=HLN.out
    rw[List.take_length,List.take_of_length_le (by omega)]at he
    have HEQ:=Lib.hid he
    clear he hl
    go_wp2_with fail
    go_ret
    rw[show decide (l1=l2)=true from decide_eq_true HEQ.out]
    exact⟨rfl,HB.out⟩
 ·have hlq:((l1.length:Int) !=(l2.length:Int))=true:=by simp;omega
  have hld:decide ((l1.length:Int)=(l2.length:Int))=false:=decide_eq_false (by omega)
  rw[show decide (l1=l2)=false from decide_eq_false (fun e=>hlen (congrArg List.length e))]
  clear hlen
  go_enter Try.func74,Try.ntmps74
  go_wp2_with fail
  go_ret
  exact⟨rfl,Below.refl _ _⟩
def isDef (p:List Int):Bool:=match p with
 | []=>false
 |x::_=>decide (x=0)
def defS (p:List Int):ByteArray:=strOfNums p.tail
theorem defS_self (s:ByteArray):defS (defE s)=s:=by simp[defS,defE,bytes_str]
theorem take_while_at {α:Type} (f:α→Bool) (l:List α) (i:Nat) (hi:i≤l.length) (h: ∀j,(hj:j<i)→f l[j]=true) (he: ∀hl:i<l.length,f l[i]=false):l.takeWhile f=l.take i:=by
 induction l generalizing i with
 |nil=>simp
 | cons a r ih=>
  match i with
  | 0=>
   have:=he (by simp)
   rw[List.getElem_cons_zero]at this
   rw[List.takeWhile_cons_of_neg (by simp[this])]
   rfl
  | i+1=>
   have h0:=h 0 (by omega)
   rw[List.getElem_cons_zero]at h0
   rw[List.takeWhile_cons_of_pos h0,List.take_succ_cons]
   congr 1
   simp only[List.length_cons]at hi
   refine ih i (by omega) (fun j hj=> ?_) (fun hl=> ?_)
   ·have:=h (j+1) (by omega)
    rwa [List.getElem_cons_succ]at this
   ·have:=he (by simp;omega)
    rwa [List.getElem_cons_succ]at this
def defsAt (ps:List (List Int)) (at0:Nat):List (List Int):=(ps.drop at0).takeWhile isDef
abbrev rec0:Rec9:=(0,⟨#[]⟩,0,[],0,0,⟨#[]⟩)
def getF (v:Int) (T:List ByteArray) (ps:List (List Int)) (at0:Int):Rec9×Int×List ByteArray×Int:=
 if ¬(1≤v∧v≤3)then(rec0,0,T,11)
 else if at0<0∨(ps.length:Int)<at0 then(rec0,0,T,1)
 else
  let ds:=defsAt ps at0.toNat
  let n:=at0.toNat+ds.length
  if n=ps.length then(rec0,0,T,6)
  else
   let r:=(lastR v (tnewOn T (ds.map defS)) (ps.getD n [])).1
   let F:=putF v T r.1 r.2.1 r.2.2.1 r.2.2.2.1 r.2.2.2.2.1 r.2.2.2.2.2.1 r.2.2.2.2.2.2
   if F.2.2=0∧F.1=(ps.drop at0.toNat).take (ds.length+1)then(r,((n+1:Nat):Int),F.2.1,0)
   else(rec0,0,T,3)
structure RecRg (r:Rec9) (n:Nat):Prop where
 k:0≤r.1∧r.1<256
 t:r.2.1.size≤maxLen
 r2:0≤r.2.2.1∧r.2.2.1<18446744073709551616
 n:r.2.2.2.1.length≤n
 d: ∀d∈r.2.2.2.1,d.f0.size≤maxLen∧0≤d.f1∧d.f1<18446744073709551616
 o:0≤r.2.2.2.2.1∧r.2.2.2.2.1<18446744073709551616
 w:0≤r.2.2.2.2.2.1∧r.2.2.2.2.2.1<18446744073709551616
 tag:r.2.2.2.2.2.2.size≤maxLen
theorem txF_size {T:List ByteArray} (hT: ∀s∈T,s.size≤maxLen) (n:Int) (hn:0≤n):(txF T n).size≤maxLen:=by
 unfold txF
 split
 ·have h1:n.toNat<T.length:=by omega
  have e:T.getD n.toNat ⟨#[]⟩=T[n.toNat]:=by simp[h1]
  rw[e]
  exact hT _ (List.getElem_mem _)
 ·exact Nat.zero_le _
theorem textR_size {v:Int} {T:List ByteArray} {l:List Int} (hT: ∀s∈T,s.size≤maxLen) (hb: ∀x∈l,0≤x∧x<256) (hl:l.length≤1000000) (a e:Int) (ha:0≤a∧a≤l.length):(textR v T l a e).1.size≤maxLen∧0≤(textR v T l a e).2.1∧(textR v T l a e).2.1≤l.length:=by
 unfold textR txR
 split
 ·have h:=cuText_step l hb 64 a e ha
  exact⟨by have:=h.2.2.2.2.2;simp only[maxLen];omega,by omega,h.1⟩
 ·have h:=cuNum_step l hb a e ha
  exact⟨txF_size hT _ h.2.2.2.1,by show 0≤(cuNum l a e).2.1;omega,h.1⟩
theorem depR_size {v:Int} {T:List ByteArray} {l:List Int} (hT: ∀s∈T,s.size≤maxLen) (hb: ∀x∈l,0≤x∧x<256) (hl:l.length≤1000000) (a e:Int) (ha:0≤a∧a≤l.length):(depR v T l a e).1.1.size≤maxLen:=by
 unfold depR
 split
 ·exact(textR_size hT hb hl a e ha).1
 ·have h:=cuNum_step l hb a e ha
  exact txF_size hT _ (by omega)
theorem depR_place0 {v:Int} {T:List ByteArray} {l:List Int} (hT: ∀s∈T,s.size≤maxLen) (hb: ∀x∈l,0≤x∧x<256) (hl:l.length≤1000000) (a e:Int) (ha:0≤a∧a≤l.length):0≤(depR v T l a e).2.1∧(depR v T l a e).2.1≤l.length:=by
 have:=depR_place v T l hb a e ha
 omega
theorem depsL_rg {v:Int} {T:List ByteArray} {l:List Int} (hT: ∀s∈T,s.size≤maxLen) (hb: ∀x∈l,0≤x∧x<256) (hl:l.length≤1000000): ∀(f:Nat) (n a e:Int) (acc:List S109),0≤a∧a≤(l.length:Int)→(∀d∈acc,d.f0.size≤maxLen∧0≤d.f1∧d.f1<18446744073709551616)→
  (∀d∈(depsL v T l f n a e acc).1,d.f0.size≤maxLen∧0≤d.f1∧d.f1<18446744073709551616)∧(depsL v T l f n a e acc).1.length≤acc.length+f∧0≤(depsL v T l f n a e acc).2.1∧(depsL v T l f n a e acc).2.1≤(l.length:Int):=by
 intro f
 induction f with
 |zero=>intro n a e acc ha h;exact⟨h,by simp[depsL],ha.1,ha.2⟩
 | succ f ih=>
  intro n a e acc ha h
  rw[depsL]
  split
  ·have h1:=depR_place0 (v:=v) hT hb hl a e ha
   have h2:=depR_size (v:=v) hT hb hl a e ha
   have h3:=cuNum_step l hb (depR v T l a e).2.1 (depR v T l a e).2.2 h1
   have h4:=ih (n-1) (cuNum l (depR v T l a e).2.1 (depR v T l a e).2.2).2.1 (cuNum l (depR v T l a e).2.1 (depR v T l a e).2.2).2.2 (acc++[⟨(depR v T l a e).1.1,(cuNum l (depR v T l a e).2.1 (depR v T l a e).2.2).1,(depR v T l a e).1.2⟩]) ⟨by omega,h3.1⟩ (by
    intro d hd
    rcases List.mem_append.1 hd with hd|hd
    ·exact h d hd
    ·simp only[List.mem_singleton]at hd
     subst hd
     exact⟨h2,h3.2.2.2.1,h3.2.2.2.2.1⟩)
   exact⟨h4.1,by have:=h4.2.1;rw[List.length_append,List.length_singleton]at this;omega,h4.2.2⟩
  ·exact⟨h,by simp,ha.1,ha.2⟩
theorem tailR_rg {v:Int} {T:List ByteArray} {l:List Int} (hT: ∀s∈T,s.size≤maxLen) (hb: ∀x∈l,0≤x∧x<256) (hl:l.length≤1000000) {k:Int} {s:ByteArray} {x2:Int} {ds:List S109} {x4:Int} {n:Nat} (a e:Int) (ha:0≤a∧a≤(l.length:Int)) (hk:0≤k∧k<256) (hs:s.size≤maxLen) (h2:0≤x2∧x2<18446744073709551616)
  (hn:ds.length≤n) (hd: ∀d∈ds,d.f0.size≤maxLen∧0≤d.f1∧d.f1<18446744073709551616) (h4:0≤x4∧x4<18446744073709551616):RecRg (tailR v T l k s x2 ds x4 a e).1 n:=by
 have z:(0:Int)≤0∧(0:Int)<18446744073709551616:=⟨by omega,by omega⟩
 have h5:=cuNum_step l hb a e ha
 have h6:=cuNum_step l hb (cuNum l a e).2.1 (cuNum l a e).2.2 ⟨by omega,h5.1⟩
 have r5:0≤(cuNum l a e).1∧(cuNum l a e).1<18446744073709551616:=⟨h5.2.2.2.1,h5.2.2.2.2.1⟩
 unfold tailR
 split
 ·exact⟨hk,hs,h2,hn,hd,h4,z,Nat.zero_le _⟩
 ·split
  ·exact⟨hk,hs,h2,hn,hd,h4,r5,Nat.zero_le _⟩
  ·split
   ·exact⟨hk,hs,h2,hn,hd,h4,r5,txF_size hT _ (by omega)⟩
   ·exact⟨hk,hs,h2,hn,hd,h4,r5,Nat.zero_le _⟩
theorem lastR_rg {v:Int} {T:List ByteArray} {l:List Int} (hT: ∀s∈T,s.size≤maxLen) (hb: ∀x∈l,0≤x∧x<256) (hl:l.length≤1000000):RecRg (lastR v T l).1 (l.length+2):=by
 have z:(0:Int)≤0∧(0:Int)<18446744073709551616:=⟨by omega,by omega⟩
 have hk:=cuByte_rg l hb
 have hb1p:0≤(cuByte l 0 0).2.1∧(cuByte l 0 0).2.1≤(l.length:Int):=by unfold cuByte;rw[if_neg (by simp)];split<;>(dsimp only;constructor<;>omega)
 have h1:=textR_size (v:=v) hT hb hl (cuByte l 0 0).2.1 (cuByte l 0 0).2.2 hb1p
 unfold lastR
 generalize cuByte l 0 0=F1 at*
 generalize textR v T l F1.2.1 F1.2.2=F2 at*
 split
 ·unfold traceR
  have h2:=cuNum_step l hb F2.2.1 F2.2.2 h1.2
  have h3:=cuNum_step l hb (cuNum l F2.2.1 F2.2.2).2.1 (cuNum l F2.2.1 F2.2.2).2.2 ⟨by omega,h2.1⟩
  generalize cuNum l F2.2.1 F2.2.2=N1 at*
  generalize cuNum l N1.2.1 N1.2.2=N2 at*
  have h4:=depsL_rg (v:=v) hT hb hl (l.length+2) N2.1 N2.2.1 N2.2.2 [] ⟨by omega,h3.1⟩ (by simp)
  generalize depsL v T l (l.length+2) N2.1 N2.2.1 N2.2.2 []=D at*
  have h5:=cuNum_step l hb D.2.1 D.2.2 h4.2.2
  generalize cuNum l D.2.1 D.2.2=N3 at*
  exact tailR_rg hT hb hl N3.2.1 N3.2.2 ⟨by omega,h5.1⟩ hk h1.1 ⟨h2.2.2.2.1,h2.2.2.2.2.1⟩ (by have:=h4.2.1;simp only[List.length_nil]at this;omega) h4.1 ⟨h5.2.2.2.1,h5.2.2.2.2.1⟩
 ·exact⟨hk,h1.1,z,Nat.zero_le _,by simp,z,z,Nat.zero_le _⟩
theorem tput_prefix (T:List ByteArray) (s:ByteArray): ∃m,tput T s=T++m:=by
 by_cases h:s∈T
 ·exact⟨[],by rw[tput_in h];simp⟩
 ·exact⟨[s],tput_out h⟩
theorem tnewOn_prefix: ∀(ns T:List ByteArray),∃m,tnewOn T ns=T++m:=by
 intro ns
 induction ns with
 |nil=>intro T;exact⟨[],by simp[tnewOn]⟩
 |cons a r ih=>
  intro T
  obtain⟨m1,h1⟩:=tput_prefix T a
  obtain⟨m2,h2⟩:=ih (tput T a)
  exact⟨m1++m2,by rw[show tnewOn T (a::r)=tnewOn (tput T a) r from rfl,h2,h1,List.append_assoc]⟩
theorem tnewOn_more {T:List ByteArray} (hd:T.Nodup) (ns:List ByteArray):tnewOn T ((moreE T (tnewOn T ns)).map defS)=tnewOn T ns:=by
 obtain⟨m,hm⟩:=tnewOn_prefix ns T
 have hN:=tnewOn_nodup T ns hd
 unfold moreE
 rw[hm]at hN ⊢
 rw[List.drop_left,List.map_map,show(defS ∘ defE:ByteArray→ByteArray)=id from funext (fun s=>defS_self s),List.map_id]
 exact tnewOn_self T m hN
theorem numI_bytes (n:Int) (h:n<18446744073709551616): ∀x∈ints (vb n.toNat),0≤x∧x<256:=GVB.ints_bytes _ (GVB.vb_bytes _ (by omega))
theorem textE_bytes (v:Int) (T:List ByteArray) (hT:T.length≤1000000) (s:ByteArray) (h:s.size≤maxLen): ∀x∈textE v T s,0≤x∧x<256:=by
 unfold textE
 split
 ·exact blob_bytes s (by simp only[maxLen]at h;omega)
 ·exact numI_bytes _ (by have:=(atI_bd T s hT).2;omega)
theorem app_bytes {a b:List Int} (ha: ∀x∈a,0≤x∧x<256) (hb: ∀x∈b,0≤x∧x<256): ∀x∈a++b,0≤x∧x<256:=fun x hx=>(List.mem_append.1 hx).elim (ha x) (hb x)
theorem lastE_bytes (v:Int) (T:List ByteArray) (hT:T.length≤1000000) (k0:Int) (hk:0≤k0∧k0<256) (x1:ByteArray) (h1:x1.size≤maxLen) (x2:Int) (h2:x2<18446744073709551616) (l:List S109) (hn:l.length≤3010)
  (hd: ∀d∈l,d.f0.size≤maxLen∧d.f1<18446744073709551616) (x4 x5:Int) (h4:x4<18446744073709551616) (h5:x5<18446744073709551616) (x6:ByteArray):
  ∀x∈lastE v T k0 x1 x2 l x4 x5 x6,0≤x∧x<256:=by
 unfold lastE
 refine app_bytes (app_bytes (by simp;exact hk) (textE_bytes v T hT x1 h1)) ?_
 split
 ·simp
 ·unfold bodyE
  have e:ints (vb l.length)=ints (vb ((l.length:Int)).toNat):=by rw[Int.toNat_natCast]
  rw[e]
  refine app_bytes (app_bytes (app_bytes (app_bytes (app_bytes (numI_bytes _ h2) (numI_bytes _ (by omega))) ?_) (numI_bytes _ h4)) ?_) ?_
  ·intro x hx
   unfold depsE at hx
   obtain⟨y,hy,hxy⟩:=List.mem_flatten.1 hx
   obtain⟨d,hdl,rfl⟩:=List.mem_map.1 hy
   refine app_bytes ?_ (numI_bytes _ (hd d hdl).2) x hxy
   unfold depE
   split
   ·exact textE_bytes v T hT d.f0 (hd d hdl).1
   ·exact numI_bytes _ (by have:=(atI_bd T d.f0 hT).2;split<;>omega)
  ·split
   ·exact numI_bytes _ h5
   ·simp
  ·split
   ·unfold tagE
    split
    ·exact GVB.ints_bytes _ (GVB.vb_bytes _ (by omega))
    ·exact numI_bytes _ (by have:=(atI_bd T x6 hT).2;omega)
   ·simp
theorem putF_bytes (v:Int) (T:List ByteArray) (hT:T.length≤100000) (k0:Int) (hk:0≤k0∧k0<256) (x1:ByteArray) (h1:x1.size≤maxLen) (x2:Int) (h2:x2<18446744073709551616) (l:List S109) (hn:l.length≤3010)
  (hd: ∀d∈l,d.f0.size≤maxLen∧d.f1<18446744073709551616) (x4 x5:Int) (h4:x4<18446744073709551616) (h5:x5<18446744073709551616) (x6:ByteArray):
  ∀p∈(putF v T k0 x1 x2 l x4 x5 x6).1,∀x∈p,0≤x∧x<256:=by
 unfold putF
 split
 ·split
  ·rename_i hm
   have M:=may_facts hm
   have hnw:=names_few (x1:=x1) (l:=l) (x6:=x6) M.t.2 M.n (fun d hd=>(M.d d hd).2.1) M.tag.1
   obtain⟨T',hT'⟩: ∃T',(if 1<v then tnewOn T (tnew (namesL x1 l x6))else T)=T':=⟨_,rfl⟩
   have hlen:T'.length≤1000000:=by
    rw[←hT']
    split
    ·have:=tnewOn_len T (tnew (namesL x1 l x6));omega
    ·omega
   simp only[hT']
   intro p hp
   rcases List.mem_append.1 hp with hp|hp
   ·unfold moreE at hp
    obtain⟨s,_,rfl⟩:=List.mem_map.1 hp
    intro x hx
    rcases List.mem_cons.1 hx with rfl|hx
    ·exact⟨by omega,by omega⟩
    ·exact bytesOf_byte s x hx
   ·simp only[List.mem_singleton]at hp
    subst hp
    exact lastE_bytes v T' hlen k0 hk x1 h1 x2 h2 l hn hd x4 x5 h4 h5 x6
  ·simp
 ·simp
def getG (v:Int) (T:List ByteArray) (ps:List (List Int)) (a n:Nat) (r:Rec9):Rec9×Int×List ByteArray×Int:=
 if (putF v T r.1 r.2.1 r.2.2.1 r.2.2.2.1 r.2.2.2.2.1 r.2.2.2.2.2.1 r.2.2.2.2.2.2).2.2=0∧(putF v T r.1 r.2.1 r.2.2.1 r.2.2.2.1 r.2.2.2.2.1 r.2.2.2.2.2.1 r.2.2.2.2.2.2).1=(ps.take (n+1)).drop a
 then(r,((n+1:Nat):Int),(putF v T r.1 r.2.1 r.2.2.1 r.2.2.2.1 r.2.2.2.2.1 r.2.2.2.2.2.1 r.2.2.2.2.2.2).2.1,0)else(rec0,0,T,3)
theorem getF_at {v:Int} {T:List ByteArray} {ps:List (List Int)} {a n:Nat} (hv:1≤v∧v≤3) (ha:a≤n) (hn:n≤ps.length) (hd: ∀j,a≤j→j<n→isDef (ps.getD j [])=true) (he:n<ps.length→isDef (ps.getD n [])=false):
  getF v T ps (a:Int)=if n=ps.length then(rec0,0,T,6)else getG v T ps a n (lastR v (tnewOn T (((ps.drop a).take (n-a)).map defS)) (ps.getD n [])).1:=by
 have hds:defsAt ps a=(ps.drop a).take (n-a):=by
  unfold defsAt
  refine take_while_at isDef _ _ (by rw[List.length_drop];omega) (fun j hj=> ?_) (fun hl=> ?_)
  ·have:=hd (a+j) (by omega) (by omega)
   rw[List.getElem_drop]
   simpa [show a+j<ps.length by omega]using this
  ·rw[List.length_drop]at hl
   have:=he (by omega)
   rw[List.getElem_drop]
   have e:a+(n-a)=n:=by omega
   simp only[e]
   simpa [show n<ps.length by omega]using this
 have hlen:(defsAt ps a).length=n-a:=by rw[hds,List.length_take,List.length_drop];omega
 have e1:a+(n-a)=n:=by omega
 unfold getF
 rw[if_neg (fun h=>h hv),if_neg (by omega)]
 simp only[Int.toNat_natCast]
 rw[hlen,hds,e1]
 split
 ·rfl
 ·unfold getG
  rw[List.drop_take,show n+1-a=n-a+1 by omega]
theorem getF_ver {v:Int} (T:List ByteArray) (ps:List (List Int)) (at0:Int) (hv: ¬(1≤v∧v≤3)):getF v T ps at0=(rec0,0,T,11):=by unfold getF;rw[if_pos hv]
theorem getF_arg {v:Int} (T:List ByteArray) (ps:List (List Int)) (at0:Int) (hv:1≤v∧v≤3) (h:at0<0∨(ps.length:Int)<at0):getF v T ps at0=(rec0,0,T,1):=by unfold getF;rw[if_neg (fun h=>h hv),if_pos h]
theorem blk_put7 {w:World} {g:Nat} {t:TypeId} {a0 a1 a2 a3 a4 a5 a6:Value} (h:w.heap[g]? =some (.cells #[a0,a1,a2,a3,a4,a5,a6] t (0,0))) (v0 v1 v2 v3 v4 v5 v6:Value):
  (((((((w.setCell ⟨g,0,none⟩ v0).setCell ⟨g,1,none⟩ v1).setCell ⟨g,2,none⟩ v2).setCell ⟨g,3,none⟩ v3).setCell ⟨g,4,none⟩ v4).setCell ⟨g,5,none⟩ v5).setCell ⟨g,6,none⟩ v6).heap[g]? =some (.cells #[v0,v1,v2,v3,v4,v5,v6] t (0,0)):=by
 have h0:=blk_put (cs':=#[v0,a1,a2,a3,a4,a5,a6]) h 0 v0 rfl
 have h1:=blk_put (cs':=#[v0,v1,a2,a3,a4,a5,a6]) h0 1 v1 rfl
 have h2:=blk_put (cs':=#[v0,v1,v2,a3,a4,a5,a6]) h1 2 v2 rfl
 have h3:=blk_put (cs':=#[v0,v1,v2,v3,a4,a5,a6]) h2 3 v3 rfl
 have h4:=blk_put (cs':=#[v0,v1,v2,v3,v4,a5,a6]) h3 4 v4 rfl
 have h5:=blk_put (cs':=#[v0,v1,v2,v3,v4,v5,a6]) h4 5 v5 rfl
 have h6:=blk_put (cs':=#[v0,v1,v2,v3,v4,v5,v6]) h5 6 v6 rfl
 exact h6
theorem below_put7 {B:Nat} {w0 w:World} {g:Nat} (h:Below B w0 w) (hg:B≤g) (v0 v1 v2 v3 v4 v5 v6:Value):
  Below B w0 (((((((w.setCell ⟨g,0,none⟩ v0).setCell ⟨g,1,none⟩ v1).setCell ⟨g,2,none⟩ v2).setCell ⟨g,3,none⟩ v3).setCell ⟨g,4,none⟩ v4).setCell ⟨g,5,none⟩ v5).setCell ⟨g,6,none⟩ v6):=
 ((((((h.setCell (p:=⟨g,0,none⟩) hg v0).setCell (p:=⟨g,1,none⟩) hg v1).setCell (p:=⟨g,2,none⟩) hg v2).setCell (p:=⟨g,3,none⟩) hg v3).setCell (p:=⟨g,4,none⟩) hg v4).setCell (p:=⟨g,5,none⟩) hg v5).setCell (p:=⟨g,6,none⟩) hg v6
theorem kp_put7 (w:World) (g:Nat) (v0 v1 v2 v3 v4 v5 v6:Value):
  Kp w (((((((w.setCell ⟨g,0,none⟩ v0).setCell ⟨g,1,none⟩ v1).setCell ⟨g,2,none⟩ v2).setCell ⟨g,3,none⟩ v3).setCell ⟨g,4,none⟩ v4).setCell ⟨g,5,none⟩ v5).setCell ⟨g,6,none⟩ v6) (fun k=>k=g):=
 (((((((Kp.refl w (fun k=>k=g)).setCell (p:=⟨g,0,none⟩) (.inl rfl) v0).setCell (p:=⟨g,1,none⟩) (.inl rfl) v1).setCell (p:=⟨g,2,none⟩) (.inl rfl) v2).setCell (p:=⟨g,3,none⟩) (.inl rfl) v3).setCell (p:=⟨g,4,none⟩) (.inl rfl) v4).setCell (p:=⟨g,5,none⟩) (.inl rfl) v5).setCell (p:=⟨g,6,none⟩) (.inl rfl) v6
theorem rlast_any {w0 W:World} {S:Nat→Prop} {g t:Nat} {T:List ByteArray} {l:List Int} (v:Int) (hv:1≤v∧v≤3) (h:Rd w0 W S g t T l 0 0) (hb: ∀x∈l,0≤x∧x<256) (hl:l.length≤1000000):
  Calls Try.prog 73 #[.agg #[.pointer (some ⟨g,0,none⟩), .pointer (some ⟨t,0,none⟩)], .int .i64 v] W (LastPost W g (lastR v T l).1):=by
 have hv3:v=1∨v=2∨v=3:=by omega
 rcases hv3 with rfl|rfl|rfl
 ·exact rlast1_any h hb hl
 ·exact rlast2_any h hb hl
 ·exact rlast3_any h hb hl
theorem newAt0 (l:List Int):newAt l 0=0:=by unfold newAt;split<;>rfl
theorem newE0 (l:List Int):newE l 0=0:=by unfold newE;rw[if_neg (by omega)]
def GetPost (W:World) (S:Nat→Prop) (t:Nat) (F:Rec9×Int×List ByteArray×Int) (e:Ending) (W':World):Prop:=
 ∃dv S',e= .returned (.tuple #[.agg #[.int .i64 F.1.1, .string F.1.2.1, .int .u64 F.1.2.2.1,dv, .int .u64 F.1.2.2.2.2.1, .int .u64 F.1.2.2.2.2.2.1, .string F.1.2.2.2.2.2.2], .int .i64 F.2.1, .int .i64 F.2.2.2])∧
  Tab W' S' t F.2.2.1∧(∀k,S' k→S k∨W.heap.size≤k)∧Kp W W' S∧Kd.R k109 109 W' W.heap.size (fun k=>¬S' k) dv F.1.2.2.2.1
theorem GetPost.early {W W':World} {S:Nat→Prop} {t:Nat} {T:List ByteArray} (h:Tab W S t T) (hb:Below W.heap.size W W') (ec:Int):
  GetPost W S t (rec0,0,T,ec) (.returned (.tuple #[.agg #[.int .i64 0, .string ⟨#[]⟩, .int .u64 0, .slice none 0 0, .int .u64 0, .int .u64 0, .string ⟨#[]⟩], .int .i64 0, .int .i64 ec])) W':=
 ⟨.slice none 0 0,S,rfl,h.keep (Kp.of_below hb (fun _=>False)) (fun _ _ h=>h),fun k hk=> .inl hk,Kp.of_below hb _,Kd.R_nil _ _ _ _ _⟩
def lastK (v:Int) (T:List ByteArray) (l:List Int) (k a e:Int):Rec9×Int×Int:=
 if k=1 then traceR v T l k (textR v T l a e).1 (textR v T l a e).2.1 (textR v T l a e).2.2 else((k,(textR v T l a e).1,0,[],0,0,⟨#[]⟩),(textR v T l a e).2)
theorem lastR_K (v:Int) (T:List ByteArray) (l:List Int):lastR v T l=lastK v T l (cuByte l 0 0).1 (cuByte l 0 0).2.1 (cuByte l 0 0).2.2:=rfl
def lastW (v:Int) (T:List ByteArray) (l:List Int):Rec9×Bool:=
 if (cuNum l 0 0).2.2≠0∨((cuNum l 0 0).1≠1∧(cuNum l 0 0).1≠2)then(rec0,false)
 else((lastK v T l (cuNum l 0 0).1 (cuNum l 0 0).2.1 (cuNum l 0 0).2.2).1,decide (pl (lastK v T l (cuNum l 0 0).1 (cuNum l 0 0).2.1 (cuNum l 0 0).2.2).2.1 (lastK v T l (cuNum l 0 0).1 (cuNum l 0 0).2.1 (cuNum l 0 0).2.2).2.2=(l.length:Int)))
def RLastPost (W:World) (F:Rec9×Bool) (e:Ending) (W':World):Prop:=
 ∃dv,e= .returned (.tuple #[.agg #[.int .i64 F.1.1, .string F.1.2.1, .int .u64 F.1.2.2.1,dv, .int .u64 F.1.2.2.2.2.1, .int .u64 F.1.2.2.2.2.2.1, .string F.1.2.2.2.2.2.2], .bool F.2])∧Kd.R k109 109 W' W.heap.size (fun _=>True) dv F.1.2.2.2.1∧Below W.heap.size W W'
structure LW (w X:World) (b:Nat) (s:ByteArray) (A:Option Addr) (n c:Nat) (p k:Int) (x1:ByteArray) (x2:Int) (dv:Value) (ds:List S109) (x4 x5:Int) (x6:ByteArray):Prop where
 k6:X.heap[b]? =some (.cells #[.int .i64 0, .string ⟨#[]⟩, .int .u64 0, .slice none 0 0, .int .u64 0, .int .u64 0, .string ⟨#[]⟩] 62 (0,0))
 k8:X.heap[b+1]? =some (.cells #[.string s, .int .i64 p, .slice A n c] 167 (0,0))
 k9:X.heap[b+1+1]? =some (.cells #[.int .i64 k, .string x1, .int .u64 x2,dv, .int .u64 x4, .int .u64 x5, .string x6] 62 (0,0))
 row:Kd.R k109 109 X (b+3) (fun _=>True) dv ds
 bl:Below w.heap.size w X
 bw:w.heap.size=b
section
variable {w X X':World} {b:Nat} {s:ByteArray} {A:Option Addr} {n c:Nat} {p k:Int} {x1:ByteArray} {x2:Int} {dv:Value} {ds:List S109} {x4 x5:Int} {x6:ByteArray}
theorem LW.below (h:LW w X b s A n c p k x1 x2 dv ds x4 x5 x6) (hb:Below X.heap.size X X'):LW w X' b s A n c p k x1 x2 dv ds x4 x5 x6:=
 ⟨blk_below h.k6 hb,blk_below h.k8 hb,blk_below h.k9 hb,Kd.R_below h.row hb,h.bl.trans (hb.mono h.bl.size),h.bw⟩
theorem LW.walk (h:LW w X b s A n c p k x1 x2 dv ds x4 x5 x6) (q:Int):LW w (((X.setCell ⟨b+1,0,none⟩ (.string s)).setCell ⟨b+1,1,none⟩ (.int .i64 q)).setCell ⟨b+1,2,none⟩ (.slice A n c)) b s A n c q k x1 x2 dv ds x4 x5 x6:=
 ⟨(heap_put3 _ (by omega) _ _ _).trans h.k6,blk_put3 h.k8 _ _ _,(heap_put3 _ (by omega) _ _ _).trans h.k9,Kd.R_mono (Kd.R_step (Kd.R_bound h.row) (fun q hq _=>heap_put3 _ (by have:=hq.2.1;omega) _ _ _)) (fun _ _=>trivial),below_put3 h.bl (by have:=h.bw;omega) _ _ _,h.bw⟩
theorem LW.field (h:LW w X b s A n c p k x1 x2 dv ds x4 x5 x6) (i:Nat) (u:Value) {k':Int} {x1':ByteArray} {x2':Int} {dv':Value} {ds':List S109} {x4' x5':Int} {x6':ByteArray} (hR:Kd.R k109 109 X (b+3) (fun _=>True) dv' ds')
  (hc:(#[.int .i64 k, .string x1, .int .u64 x2,dv, .int .u64 x4, .int .u64 x5, .string x6]:Array Value).setIfInBounds i u=#[.int .i64 k', .string x1', .int .u64 x2',dv', .int .u64 x4', .int .u64 x5', .string x6']):LW w (X.setCell ⟨b+1+1,i,none⟩ u) b s A n c p k' x1' x2' dv' ds' x4' x5' x6':=
 ⟨(Below.heap_setCell _ _ _ _ (by show b≠b+1+1;omega)).trans h.k6,(Below.heap_setCell _ _ _ _ (by show b+1≠b+1+1;omega)).trans h.k8,blk_put h.k9 i u hc,Kd.R_mono (Kd.R_step (Kd.R_bound hR) (fun q hq _=>Below.heap_setCell _ _ _ _ (by have:=hq.2.1;show q≠b+1+1;omega))) (fun _ _=>trivial),h.bl.setCell (p:=⟨b+1+1,i,none⟩) (by have:=h.bw;show w.heap.size≤b+1+1;omega) _,h.bw⟩
end
theorem textR_place {v:Int} {T:List ByteArray} {l:List Int} (hb: ∀x∈l,0≤x∧x<256) (a e:Int) (ha:0≤a∧a≤l.length):0≤(textR v T l a e).2.1∧(textR v T l a e).2.1≤l.length:=by
 unfold textR txR
 split
 ·have h:=cuText_step l hb 64 a e ha
  exact⟨by omega,h.1⟩
 ·have h:=cuNum_step l hb a e ha
  exact⟨by show 0≤(cuNum l a e).2.1;omega,h.1⟩
theorem wdeps_is (v:Int) {l:List Int} (hb: ∀x∈l,0≤x∧x<256) (hl:l.length≤1000000) (a e:Int) (ha:0≤a∧a≤l.length) (A:Option Addr) (c:Nat) (T:List ByteArray) (hT:T.length≤1000000) (N:Int) (hN:0≤N∧N<18446744073709551616) (w:World) (hC:Kd.C Kd.string w A T.length T):
  Calls Try.prog 105 #[.agg #[.string (strOfNums l), .int .i64 (pl a e), .slice A T.length c], .int .i64 v, .int .u64 N] w fun en w'=>∃dv,en= .returned (.tuple #[dv, .agg #[.string (strOfNums l), .int .i64 (pl (depsL v T l (l.length+2) N a e []).2.1 (depsL v T l (l.length+2) N a e []).2.2), .slice A T.length c]])∧Kd.R k109 109 w' w.heap.size (fun _=>True) dv (depsL v T l (l.length+2) N a e []).1∧Below w.heap.size w w':=by
 by_cases hv:v<3
 ·exact wdeps_lo v hv hb hl a e ha A c T hT N hN w hC
 ·exact wdeps_hi v (by omega) hb hl a e ha A c T hT N hN w hC
set_option maxRecDepth 100000 in
set_option maxHeartbeats 4000000 in
theorem wlast_bad (v:Int) {l:List Int} (hb: ∀x∈l,0≤x∧x<256) (hl:l.length≤1000000) (A:Option Addr) (c:Nat) (T:List ByteArray) (hT:T.length≤1000000) (w:World) (hC:Kd.C Kd.string w A T.length T) (hbd: ∀{k a1 e1:Int},cuNum l 0 0=(k,a1,e1)→e1≠0∨(k≠1∧k≠2)):
  Calls Try.prog 76 #[.int .i64 v, .slice A T.length c, .string (strOfNums l)] w (RLastPost w (lastW v T l)):=by
 have HNU:=Lib.hid (fun(a e:Int) (W:World)=>wnum_is hb hl a e A T.length c W)
 have HNM:=Lib.hid (fun(a e:Int) (W:World) (h:Below w.heap.size w W)=>wname_is v hb hl a e A c T hT W (Kd.C_below hC h))
 have HKN:=Lib.hid (fun(a e m:Int) (hm:0≤m∧m<18446744073709551616) (W:World) (h:Below w.heap.size w W)=>wknown_is (strOfNums l) a e A c T hT m hm W (Kd.C_below hC h))
 have HDE:=Lib.hid (fun(a e m:Int) (ha:0≤a∧a≤(l.length:Int)) (hm:0≤m∧m<18446744073709551616) (W:World) (h:Below w.heap.size w W)=>wdeps_is v hb hl a e ha A c T hT m hm W (Kd.C_below hC h))
 have hss:(strOfNums l).size=l.length:=strOfNums_size l
 obtain⟨s,hs⟩: ∃s,strOfNums l=s:=⟨_,rfl⟩
 rw[hs]at HNU HNM HKN HDE hss ⊢
 have HN0:=Lib.hid (HNU.out 0 0)
 have hst0:=cuNum_step l hb 0 0 ⟨by omega,by omega⟩
 obtain⟨F,hF⟩: ∃F,lastW v T l=F:=⟨_,rfl⟩
 rw[hF]
 have HF:=Lib.hid hF
 unfold lastW at hF
 have HBY:=Lib.hid hb
 clear hC hs hb
 obtain⟨w1,hw1⟩: ∃w1,((w.alloc (.cells #[.int .i64 0, .string ⟨#[]⟩, .int .u64 0, .slice none 0 0, .int .u64 0, .int .u64 0, .string ⟨#[]⟩] 62)).alloc (.cells #[.string s, .int .i64 0, .slice A T.length c] 167)).alloc (.cells #[.int .i64 0, .string ⟨#[]⟩, .int .u64 0, .slice none 0 0, .int .u64 0, .int .u64 0, .string ⟨#[]⟩] 62)=w1:=⟨_,rfl⟩
 have hb1:Below w.heap.size w w1:=by rw[←hw1];exact(((Below.refl _ _).alloc (Nat.le_refl _) _).alloc (by rw[heap_size_alloc];omega) _).alloc (by rw[heap_size_alloc,heap_size_alloc];omega) _
 have hk6:w1.heap[w.heap.size]? =some (.cells #[.int .i64 0, .string ⟨#[]⟩, .int .u64 0, .slice none 0 0, .int .u64 0, .int .u64 0, .string ⟨#[]⟩] 62 (0,0)):=by rw[←hw1];exact blk_alloc (blk_alloc (heap_new _ _) _) _
 have hk8:w1.heap[w.heap.size+1]? =some (.cells #[.string s, .int .i64 0, .slice A T.length c] 167 (0,0)):=by
  rw[←hw1]
  have:=heap_new (w.alloc (.cells #[.int .i64 0, .string ⟨#[]⟩, .int .u64 0, .slice none 0 0, .int .u64 0, .int .u64 0, .string ⟨#[]⟩] 62)) (.cells #[.string s, .int .i64 0, .slice A T.length c] 167)
  rw[heap_size_alloc]at this
  exact blk_alloc this _
 have hk9:w1.heap[w.heap.size+2]? =some (.cells #[.int .i64 0, .string ⟨#[]⟩, .int .u64 0, .slice none 0 0, .int .u64 0, .int .u64 0, .string ⟨#[]⟩] 62 (0,0)):=by
  rw[←hw1]
  have:=heap_new ((w.alloc (.cells #[.int .i64 0, .string ⟨#[]⟩, .int .u64 0, .slice none 0 0, .int .u64 0, .int .u64 0, .string ⟨#[]⟩] 62)).alloc (.cells #[.string s, .int .i64 0, .slice A T.length c] 167)) (.cells #[.int .i64 0, .string ⟨#[]⟩, .int .u64 0, .slice none 0 0, .int .u64 0, .int .u64 0, .string ⟨#[]⟩] 62)
  rwa [heap_size_alloc,heap_size_alloc]at this
 obtain⟨b,hbb⟩: ∃b,w.heap.size=b:=⟨_,rfl⟩
 rw[hbb]at hk6 hk8 hk9
 have HL1:Hid (LW w w1 b s A T.length c 0 0 ⟨#[]⟩ 0 (.slice none 0 0) [] 0 0 ⟨#[]⟩):=Lib.hid ⟨hk6,hk8,hk9,Kd.R_nil _ _ _ _ _,hb1,hbb⟩
 have HW1:=Lib.hid hw1
 have HBB:=Lib.hid hbb
 have HU:=Lib.hid Try.underlying62
 rw[show pl 0 0=0 from rfl]at HN0
 clear hk6 hk8 hk9 hb1 hw1 hbb
 generalize hN1:cuNum l 0 0=N1 at hF HN0 hst0
 obtain⟨k,a1,e1⟩:=N1
 dsimp only at hF HN0 hst0
 have hbad:e1≠0∨(k≠1∧k≠2):=hbd hN1
 rw[if_pos hbad]at hF
 have HEQ:=Lib.hid hF
 have HBD:=Lib.hid hbad
 have HPN:=Lib.hid (show decide (pl a1 e1<0)=decide (e1≠0)by
  unfold pl
  by_cases h:e1=0
  ·rw[if_pos h,decide_eq_false (by omega),decide_eq_false (by simpa using h)]
  ·rw[if_neg h,decide_eq_true (by omega),decide_eq_true h])
 have hn0:=HN0.out
 generalize pl a1 e1=p1 at hn0 HPN
 replace HN0:=Lib.hid hn0
 clear hF hbad hbd hn0
 go_enter Try.func76,Try.ntmps76
 go_wp2_with fail
 rw[HW1.out,HBB.out]
 refine(HN0.out w1).mono ?_
 rintro en y1 ⟨rfl,hb⟩
 have hl0:=HL1.out.below hb
 have hl1:=hl0
 obtain⟨wx0,wxf0,wx1,wxf1,wx2,wxf2⟩:=wf6 hl1.k8
 have hl2:=hl1.walk p1
 obtain⟨d0,d1,d2⟩:=wf3 hl2.k8
 obtain⟨o0,of0,o1,of1,o2,of2,o3,of3,o4,of4,o5,of5,o6,of6⟩:=facts7f hl2.k6
 obtain⟨r0,r1,r2,r3,r4,r5,r6⟩:=facts7 hl2.k9
 obtain⟨z1,hz⟩: ∃x,(((y1.setCell ⟨b+1,0,none⟩ (.string s)).setCell ⟨b+1,1,none⟩ (.int .i64 p1)).setCell ⟨b+1,2,none⟩ (.slice A T.length c))=x:=⟨_,rfl⟩
 rw[hz]at hl2
 have HLz1:=Lib.hid hl2
 have HWz1:=Lib.hid hz
 clear hb hl0 hl1 hl2 hz
 by_cases he:e1=0
 ·have h1:=HPN.out
  rw[decide_eq_false (show ¬e1≠0 by simpa using he)]at h1
  have hkk:=HBD.out
  have hk1:(k !=1)=true:=by simp;omega
  have hk2:(k !=2)=true:=by simp;omega
  go_wp2_with fail
  rw[HWz1.out]
  refine bodyPost_ret (results_ct rfl _ _ b 62 #[_,_,_,_,_,_,_] (0,0) _ rfl (blk_put7 HLz1.out.k6 _ _ _ _ _ _ _) HU.out rfl (by kernel_rfl)) rfl ?_
  rw[←HEQ.out]
  exact⟨_,rfl,Kd.R_nil _ _ _ _ _,below_put7 HLz1.out.bl (by have:=HBB.out;omega) _ _ _ _ _ _ _⟩
 ·have h1:=HPN.out
  rw[decide_eq_true he]at h1
  go_wp2_with fail
  rw[HWz1.out]
  refine bodyPost_ret (results_ct rfl _ _ b 62 #[_,_,_,_,_,_,_] (0,0) _ rfl (blk_put7 HLz1.out.k6 _ _ _ _ _ _ _) HU.out rfl (by kernel_rfl)) rfl ?_
  rw[←HEQ.out]
  exact⟨_,rfl,Kd.R_nil _ _ _ _ _,below_put7 HLz1.out.bl (by have:=HBB.out;omega) _ _ _ _ _ _ _⟩
set_option maxRecDepth 100000 in
set_option maxHeartbeats 4000000 in
theorem wlast_g2 (v:Int) {l:List Int} (hb: ∀x∈l,0≤x∧x<256) (hl:l.length≤1000000) (A:Option Addr) (c:Nat) (T:List ByteArray) (hT:T.length≤1000000) (w:World) (hC:Kd.C Kd.string w A T.length T) (hgd: ∀{k a1 e1:Int},cuNum l 0 0=(k,a1,e1)→k=2∧e1=0):
  Calls Try.prog 76 #[.int .i64 v, .slice A T.length c, .string (strOfNums l)] w (RLastPost w (lastW v T l)):=by
 have HNU:=Lib.hid (fun(a e:Int) (W:World)=>wnum_is hb hl a e A T.length c W)
 have HNM:=Lib.hid (fun(a e:Int) (W:World) (h:Below w.heap.size w W)=>wname_is v hb hl a e A c T hT W (Kd.C_below hC h))
 have HKN:=Lib.hid (fun(a e m:Int) (hm:0≤m∧m<18446744073709551616) (W:World) (h:Below w.heap.size w W)=>wknown_is (strOfNums l) a e A c T hT m hm W (Kd.C_below hC h))
 have HDE:=Lib.hid (fun(a e m:Int) (ha:0≤a∧a≤(l.length:Int)) (hm:0≤m∧m<18446744073709551616) (W:World) (h:Below w.heap.size w W)=>wdeps_is v hb hl a e ha A c T hT m hm W (Kd.C_below hC h))
 have hss:(strOfNums l).size=l.length:=strOfNums_size l
 obtain⟨s,hs⟩: ∃s,strOfNums l=s:=⟨_,rfl⟩
 rw[hs]at HNU HNM HKN HDE hss ⊢
 have HN0:=Lib.hid (HNU.out 0 0)
 have hst0:=cuNum_step l hb 0 0 ⟨by omega,by omega⟩
 obtain⟨F,hF⟩: ∃F,lastW v T l=F:=⟨_,rfl⟩
 rw[hF]
 have HF:=Lib.hid hF
 unfold lastW at hF
 have HBY:=Lib.hid hb
 clear hC hs hb
 obtain⟨w1,hw1⟩: ∃w1,((w.alloc (.cells #[.int .i64 0, .string ⟨#[]⟩, .int .u64 0, .slice none 0 0, .int .u64 0, .int .u64 0, .string ⟨#[]⟩] 62)).alloc (.cells #[.string s, .int .i64 0, .slice A T.length c] 167)).alloc (.cells #[.int .i64 0, .string ⟨#[]⟩, .int .u64 0, .slice none 0 0, .int .u64 0, .int .u64 0, .string ⟨#[]⟩] 62)=w1:=⟨_,rfl⟩
 have hb1:Below w.heap.size w w1:=by rw[←hw1];exact(((Below.refl _ _).alloc (Nat.le_refl _) _).alloc (by rw[heap_size_alloc];omega) _).alloc (by rw[heap_size_alloc,heap_size_alloc];omega) _
 have hk6:w1.heap[w.heap.size]? =some (.cells #[.int .i64 0, .string ⟨#[]⟩, .int .u64 0, .slice none 0 0, .int .u64 0, .int .u64 0, .string ⟨#[]⟩] 62 (0,0)):=by rw[←hw1];exact blk_alloc (blk_alloc (heap_new _ _) _) _
 have hk8:w1.heap[w.heap.size+1]? =some (.cells #[.string s, .int .i64 0, .slice A T.length c] 167 (0,0)):=by
  rw[←hw1]
  have:=heap_new (w.alloc (.cells #[.int .i64 0, .string ⟨#[]⟩, .int .u64 0, .slice none 0 0, .int .u64 0, .int .u64 0, .string ⟨#[]⟩] 62)) (.cells #[.string s, .int .i64 0, .slice A T.length c] 167)
  rw[heap_size_alloc]at this
  exact blk_alloc this _
 have hk9:w1.heap[w.heap.size+2]? =some (.cells #[.int .i64 0, .string ⟨#[]⟩, .int .u64 0, .slice none 0 0, .int .u64 0, .int .u64 0, .string ⟨#[]⟩] 62 (0,0)):=by
  rw[←hw1]
  have:=heap_new ((w.alloc (.cells #[.int .i64 0, .string ⟨#[]⟩, .int .u64 0, .slice none 0 0, .int .u64 0, .int .u64 0, .string ⟨#[]⟩] 62)).alloc (.cells #[.string s, .int .i64 0, .slice A T.length c] 167)) (.cells #[.int .i64 0, .string ⟨#[]⟩, .int .u64 0, .slice none 0 0, .int .u64 0, .int .u64 0, .string ⟨#[]⟩] 62)
  rwa [heap_size_alloc,heap_size_alloc]at this
 obtain⟨b,hbb⟩: ∃b,w.heap.size=b:=⟨_,rfl⟩
 rw[hbb]at hk6 hk8 hk9
 have HL1:Hid (LW w w1 b s A T.length c 0 0 ⟨#[]⟩ 0 (.slice none 0 0) [] 0 0 ⟨#[]⟩):=Lib.hid ⟨hk6,hk8,hk9,Kd.R_nil _ _ _ _ _,hb1,hbb⟩
 have HW1:=Lib.hid hw1
 have HBB:=Lib.hid hbb
 have HU:=Lib.hid Try.underlying62
 rw[show pl 0 0=0 from rfl]at HN0
 clear hk6 hk8 hk9 hb1 hw1 hbb
 generalize hN1:cuNum l 0 0=N1 at hF HN0 hst0
 obtain⟨k,a1,e1⟩:=N1
 dsimp only at hF HN0 hst0
 obtain⟨rfl,rfl⟩:=hgd hN1
 rw[if_neg (by omega)]at hF
 clear hgd
 unfold lastK at hF
 rw[if_neg (by omega)]at hF
 have c1:=HNM.out a1 0
 have s1:=textR_place (v:=v) (T:=T) HBY.out a1 0 ⟨by omega,hst0.1⟩
 generalize textR v T l a1 0=X1 at hF c1 s1
 obtain⟨x1,a2,e2⟩:=X1
 dsimp only at hF c1 s1
 try dsimp only at hF
 have hp1:decide (pl a1 0<0)=false:=by unfold pl;rw[if_pos rfl];exact decide_eq_false (by omega)
 have hn0:=HN0.out
 generalize pl a1 0=p1 at hF hn0 c1 hp1
 generalize pl a2 e2=p2 at hF hn0 c1
 have HEQ:=Lib.hid hF
 have C1:=Lib.hid c1
 replace HN0:=Lib.hid hn0
 clear hF hN1 hst0 hn0 c1 s1
 have hkw:IntKind.i64.wrap 2=2:=by rw[IntKind.wrap_i64];omega
 go_enter Try.func76,Try.ntmps76
 go_wp2_with fail
 rw[HW1.out,HBB.out]
 refine(HN0.out w1).mono ?_
 rintro en y1 ⟨rfl,hb⟩
 have hl0:=HL1.out.below hb
 have hl1:=hl0
 obtain⟨wx0,wxf0,wx1,wxf1,wx2,wxf2⟩:=wf6 hl1.k8
 have hl2:=hl1.walk p1
 obtain⟨d0,d1,d2⟩:=wf3 hl2.k8
 have m0:(((y1.setCell ⟨b+1,0,none⟩ (.string s)).setCell ⟨b+1,1,none⟩ (.int .i64 p1)).setCell ⟨b+1,2,none⟩ (.slice A T.length c)).cell? ⟨b+1+1,0,none⟩=some (.int .i64 0):=(blk_cell hl2.k9 0).trans rfl
 have mf0:=blk_frozen hl2.k9 0
 have hl2:=hl2.field 0 (.int .i64 2) (k':=2) (x1':=⟨#[]⟩) (x2':=0) (dv':= .slice none 0 0) (ds':=[]) (x4':=0) (x5':=0) (x6':=⟨#[]⟩) hl2.row rfl
 obtain⟨n0,n1,n2⟩:=wf3 hl2.k8
 obtain⟨z1,hz⟩: ∃x,((((y1.setCell ⟨b+1,0,none⟩ (.string s)).setCell ⟨b+1,1,none⟩ (.int .i64 p1)).setCell ⟨b+1,2,none⟩ (.slice A T.length c)).setCell ⟨b+1+1,0,none⟩ (.int .i64 2))=x:=⟨_,rfl⟩
 rw[hz]at hl2
 have HLz1:=Lib.hid hl2
 have HWz1:=Lib.hid hz
 clear hb hl0 hl1 hl2 hz
 go_wp2_with fail
 clear wx0 wxf0 wx1 wxf1 wx2 wxf2 d0 d1 d2 m0 mf0 n0 n1 n2
 rw[HWz1.out]
 refine(C1.out _ HLz1.out.bl).mono ?_
 rintro en y2 ⟨rfl,hb⟩
 have hl0:=HLz1.out.below hb
 have g1:y2.cell? ⟨b+1+1,1,none⟩=some (.string ⟨#[]⟩):=(blk_cell hl0.k9 1).trans rfl
 have gf1:=blk_frozen hl0.k9 1
 have hl1:=hl0.field 1 (.string x1) (k':=2) (x1':=x1) (x2':=0) (dv':= .slice none 0 0) (ds':=[]) (x4':=0) (x5':=0) (x6':=⟨#[]⟩) hl0.row rfl
 obtain⟨wx0,wxf0,wx1,wxf1,wx2,wxf2⟩:=wf6 hl1.k8
 have hl2:=hl1.walk p2
 obtain⟨d0,d1,d2⟩:=wf3 hl2.k8
 obtain⟨z2,hz⟩: ∃x,((((y2.setCell ⟨b+1+1,1,none⟩ (.string x1)).setCell ⟨b+1,0,none⟩ (.string s)).setCell ⟨b+1,1,none⟩ (.int .i64 p2)).setCell ⟨b+1,2,none⟩ (.slice A T.length c))=x:=⟨_,rfl⟩
 rw[hz]at hl2
 have HLz2:=Lib.hid hl2
 have HWz2:=Lib.hid hz
 clear hb hl0 hl1 hl2 hz
 go_wp2_with fail
 clear wx0 wxf0 wx1 wxf1 wx2 wxf2 d0 d1 d2 g1 gf1
 rw[HWz2.out]
 have hl9:=HLz2.out
 obtain⟨pp,hpp⟩: ∃x,p2=x:=⟨_,rfl⟩
 rw[hpp]at hl9
 have heq:=HEQ.out
 rw[hpp]at heq
 have HL9:=Lib.hid hl9
 have HPP:=Lib.hid hpp
 obtain⟨ok,hok⟩: ∃x,decide (pp=(l.length:Int))=x:=⟨_,rfl⟩
 have hok2:(pp==(l.length:Int))=ok:=by rw[←hok,Bool.eq_iff_iff];simp
 rw[hok]at heq
 have HEQ2:=Lib.hid heq
 clear heq
 have HOK:=Lib.hid (And.intro hok hok2)
 have kT1:=And.intro hl9.k8 (And.intro hl9.k9 (Kd.R_mono (ok':=fun k=>k≠b) (Kd.R_bound hl9.row) (fun k hk=>by have:=hk.2.1;omega)))
 have kT3:=hl9.k6
 have hsz:=hl9.bl.size
 have hb3w:=HBB.out
 clear hl9 hpp hok hok2
 refine region_one (n:=8) (base:=w.heap.size) (w0:=w) (b:=b) (jw:=6) (byList [isV (.agg #[.int .i64 2, .string x1, .int .u64 0, .slice none 0 0, .int .u64 0, .int .u64 0, .string ⟨#[]⟩]),isV (.pointer (some ⟨b+1,1,none⟩)),isV (.int .i64 pp),isV (.string s),isV (.int .i64 (l.length:Int)),isV (.bool ok),(fun _ _=>True),isV (.bool ok)]) (fun W=>W.heap[b+1]? =some (.cells #[.string s, .int .i64 pp, .slice A T.length c] 167 (0,0))∧W.heap[b+1+1]? =some (.cells #[.int .i64 2, .string x1, .int .u64 0, .slice none 0 0, .int .u64 0, .int .u64 0, .string ⟨#[]⟩] 62 (0,0))∧Kd.R k109 109 W (b+3) (fun k=>k≠b) (.slice none 0 0) ([])) (fun W=>W.heap[b]? =some (.cells #[.int .i64 0, .string ⟨#[]⟩, .int .u64 0, .slice none 0 0, .int .u64 0, .int .u64 0, .string ⟨#[]⟩] 62 (0,0))) (fun W=>W.heap[b]? =some (.cells #[.int .i64 2, .string x1, .int .u64 0, .slice none 0 0, .int .u64 0, .int .u64 0, .string ⟨#[]⟩] 62 (0,0))) (by kernel_rfl) rfl (by omega) (byList_any ?_) (by kernel_rfl) (by kernel_rfl) (by omega) (fun W W' row hrow h hg=>⟨blk_grown' h.1 hg (by rcases hrow with rfl|rfl<;>simp<;>omega),blk_grown' h.2.1 hg (by rcases hrow with rfl|rfl<;>simp<;>omega),Kd.R_grown h.2.2 hg (fun k hk=>by rcases hrow with rfl|rfl<;>simp;omega)⟩) (fun W W' h hg=>blk_below h (below_none hg)) (fun W W' h hg=>blk_below h (below_none hg)) HL9.out.bl (Nat.le_refl _) kT1 kT3 (show AllLt 8 _ from ?_) ?_
 ·intro p hp
  simp only[List.mem_cons,List.not_mem_nil,or_false]at hp
  rcases hp with rfl|rfl|rfl|rfl|rfl|rfl|rfl|rfl<;>exact fun _ _ _ h=>h
 ·refine allLt_succ (allLt_succ (allLt_succ (allLt_succ (allLt_succ (allLt_succ (allLt_succ (allLt_succ (allLt_zero _) ?_) ?_) ?_) ?_) ?_) ?_) ?_) ?_
  ·refine StepOkO.run (get_lit rfl) rfl (by omega) fun a W hS hB hd hR=> ?_
   have e9:=hS.get (t:=9) rfl rfl
   refine wp_value (c:= .agg #[.int .i64 2, .string x1, .int .u64 0, .slice none 0 0, .int .u64 0, .int .u64 0, .string ⟨#[]⟩]) ?_ rfl
   obtain⟨c0,c1,c2,c3,c4,c5,c6⟩:=facts7 hR.2.1
   go_simp
  ·refine StepOkO.run (get_lit rfl) rfl (by omega) fun a W hS hB hd hR=> ?_
   have e8:=hS.get (t:=8) rfl rfl
   refine wp_value (c:= .pointer (some ⟨b+1,1,none⟩)) ?_ rfl
   go_simp
  ·refine StepOkO.run (get_lit rfl) rfl (by omega) fun a W hS hB hd hR=> ?_
   have e96:=(hd 1 rfl).bool rfl rfl rfl
   refine wp_value (c:= .int .i64 pp) ?_ rfl
   have c0:W.cell? ⟨b+1,0,none⟩=some (.string s):=(blk_cell hR.1 0).trans rfl
   have c1:W.cell? ⟨b+1,1,none⟩=some (.int .i64 pp):=(blk_cell hR.1 1).trans rfl
   have c2:W.cell? ⟨b+1,2,none⟩=some (.slice A T.length c):=(blk_cell hR.1 2).trans rfl
   go_simp
  ·refine StepOkO.run (get_lit rfl) rfl (by omega) fun a W hS hB hd hR=> ?_
   have e2:=hS.get (t:=2) rfl rfl
   refine wp_value (c:= .string s) ?_ rfl
   go_simp
  ·refine StepOkO.run (get_lit rfl) rfl (by omega) fun a W hS hB hd hR=> ?_
   have e98:=(hd 3 rfl).bool rfl rfl rfl
   refine wp_value (c:= .int .i64 (l.length:Int)) ?_ rfl
   have hsz9:=hss
   go_simp
  ·refine StepOkO.run (get_lit rfl) rfl (by omega) fun a W hS hB hd hR=> ?_
   have e97:=(hd 2 rfl).bool rfl rfl rfl
   have e99:=(hd 4 rfl).bool rfl rfl rfl
   refine wp_value (c:= .bool ok) ?_ rfl
   obtain⟨ho1,ho2⟩:=HOK.out
   go_simp
  ·refine StepOkO.write (get_lit rfl) rfl rfl rfl fun a W hS hB hd hR hP=> ?_
   have e6:=hS.get (t:=6) rfl rfl
   have e95:=(hd 0 rfl).bool rfl rfl rfl
   obtain⟨z0,zf0,z1,zf1,z2,zf2,z3,zf3,z4,zf4,z5,zf5,z6,zf6⟩:=facts7f hP
   refine⟨_, ?_,grown_put (grown_put (grown_put (grown_put (grown_put (grown_put (grown_put (World.grownBy.refl _ _) (.int .i64 2)) (.string x1)) (.int .u64 0)) (.slice none 0 0)) (.int .u64 0)) (.int .u64 0)) (.string ⟨#[]⟩),blk_put7 hP _ _ _ _ _ _ _⟩
   go_simp
  ·refine StepOkO.run (get_lit rfl) rfl (by omega) fun a W hS hB hd hR=> ?_
   have e100:=(hd 5 rfl).bool rfl rfl rfl
   refine wp_value (c:= .bool ok) ?_ rfl
   go_simp
 ·intro a W hS hB hh hRD hFD
  have e7:a.tmps[7]? =some (.bool ok):=(hh 7 (by omega)).bool rfl rfl rfl
  have HBR:=Lib.hid hB
  obtain⟨zz,hlit,hzz⟩:=same_litz hS
  clear hh hS hB
  simp only[List.filterMap_cons,List.filterMap_nil,List.foldl_cons,List.foldl_nil,List.setIfInBounds_toArray,List.set_cons_zero,List.set_cons_succ]at hlit
  rw[hzz 7 _ e7]at hlit
  clear e7
  clear hzz;subst hlit
  go_wp2_with fail
  refine bodyPost_ret (results_ct rfl _ _ b 62 #[_,_,_,_,_,_,_] (0,0) _ rfl hFD HU.out rfl (by kernel_rfl)) rfl ?_
  rw[←HEQ2.out]
  exact⟨_,rfl,Kd.R_mono (Kd.R_lower hRD.2.2 (by omega)) (fun _ _=>trivial),HBR.out⟩
set_option maxRecDepth 100000 in
set_option maxHeartbeats 4000000 in
theorem wlast_v1 {l:List Int} (hb: ∀x∈l,0≤x∧x<256) (hl:l.length≤1000000) (A:Option Addr) (c:Nat) (T:List ByteArray) (hT:T.length≤1000000) (w:World) (hC:Kd.C Kd.string w A T.length T) (hgd: ∀{k a1 e1:Int},cuNum l 0 0=(k,a1,e1)→k=1∧e1=0):
  Calls Try.prog 76 #[.int .i64 1, .slice A T.length c, .string (strOfNums l)] w (RLastPost w (lastW 1 T l)):=by
 have HNU:=Lib.hid (fun(a e:Int) (W:World)=>wnum_is hb hl a e A T.length c W)
 have HNM:=Lib.hid (fun(a e:Int) (W:World) (h:Below w.heap.size w W)=>wname_is 1 hb hl a e A c T hT W (Kd.C_below hC h))
 have HKN:=Lib.hid (fun(a e m:Int) (hm:0≤m∧m<18446744073709551616) (W:World) (h:Below w.heap.size w W)=>wknown_is (strOfNums l) a e A c T hT m hm W (Kd.C_below hC h))
 have HDE:=Lib.hid (fun(a e m:Int) (ha:0≤a∧a≤(l.length:Int)) (hm:0≤m∧m<18446744073709551616) (W:World) (h:Below w.heap.size w W)=>wdeps_is 1 hb hl a e ha A c T hT m hm W (Kd.C_below hC h))
 have hss:(strOfNums l).size=l.length:=strOfNums_size l
 obtain⟨s,hs⟩: ∃s,strOfNums l=s:=⟨_,rfl⟩
 rw[hs]at HNU HNM HKN HDE hss ⊢
 have HN0:=Lib.hid (HNU.out 0 0)
 have hst0:=cuNum_step l hb 0 0 ⟨by omega,by omega⟩
 obtain⟨F,hF⟩: ∃F,lastW 1 T l=F:=⟨_,rfl⟩
 rw[hF]
 have HF:=Lib.hid hF
 unfold lastW at hF
 have HBY:=Lib.hid hb
 clear hC hs hb
 obtain⟨w1,hw1⟩: ∃w1,((w.alloc (.cells #[.int .i64 0, .string ⟨#[]⟩, .int .u64 0, .slice none 0 0, .int .u64 0, .int .u64 0, .string ⟨#[]⟩] 62)).alloc (.cells #[.string s, .int .i64 0, .slice A T.length c] 167)).alloc (.cells #[.int .i64 0, .string ⟨#[]⟩, .int .u64 0, .slice none 0 0, .int .u64 0, .int .u64 0, .string ⟨#[]⟩] 62)=w1:=⟨_,rfl⟩
 have hb1:Below w.heap.size w w1:=by rw[←hw1];exact(((Below.refl _ _).alloc (Nat.le_refl _) _).alloc (by rw[heap_size_alloc];omega) _).alloc (by rw[heap_size_alloc,heap_size_alloc];omega) _
 have hk6:w1.heap[w.heap.size]? =some (.cells #[.int .i64 0, .string ⟨#[]⟩, .int .u64 0, .slice none 0 0, .int .u64 0, .int .u64 0, .string ⟨#[]⟩] 62 (0,0)):=by rw[←hw1];exact blk_alloc (blk_alloc (heap_new _ _) _) _
 have hk8:w1.heap[w.heap.size+1]? =some (.cells #[.string s, .int .i64 0, .slice A T.length c] 167 (0,0)):=by
  rw[←hw1]
  have:=heap_new (w.alloc (.cells #[.int .i64 0, .string ⟨#[]⟩, .int .u64 0, .slice none 0 0, .int .u64 0, .int .u64 0, .string ⟨#[]⟩] 62)) (.cells #[.string s, .int .i64 0, .slice A T.length c] 167)
  rw[heap_size_alloc]at this
  exact blk_alloc this _
 have hk9:w1.heap[w.heap.size+2]? =some (.cells #[.int .i64 0, .string ⟨#[]⟩, .int .u64 0, .slice none 0 0, .int .u64 0, .int .u64 0, .string ⟨#[]⟩] 62 (0,0)):=by
  rw[←hw1]
  have:=heap_new ((w.alloc (.cells #[.int .i64 0, .string ⟨#[]⟩, .int .u64 0, .slice none 0 0, .int .u64 0, .int .u64 0, .string ⟨#[]⟩] 62)).alloc (.cells #[.string s, .int .i64 0, .slice A T.length c] 167)) (.cells #[.int .i64 0, .string ⟨#[]⟩, .int .u64 0, .slice none 0 0, .int .u64 0, .int .u64 0, .string ⟨#[]⟩] 62)
  rwa [heap_size_alloc,heap_size_alloc]at this
 obtain⟨b,hbb⟩: ∃b,w.heap.size=b:=⟨_,rfl⟩
 rw[hbb]at hk6 hk8 hk9
 have HL1:Hid (LW w w1 b s A T.length c 0 0 ⟨#[]⟩ 0 (.slice none 0 0) [] 0 0 ⟨#[]⟩):=Lib.hid ⟨hk6,hk8,hk9,Kd.R_nil _ _ _ _ _,hb1,hbb⟩
 have HW1:=Lib.hid hw1
 have HBB:=Lib.hid hbb
 have HU:=Lib.hid Try.underlying62
 rw[show pl 0 0=0 from rfl]at HN0
 clear hk6 hk8 hk9 hb1 hw1 hbb
 generalize hN1:cuNum l 0 0=N1 at hF HN0 hst0
 obtain⟨k,a1,e1⟩:=N1
 dsimp only at hF HN0 hst0
 obtain⟨rfl,rfl⟩:=hgd hN1
 rw[if_neg (by omega)]at hF
 clear hgd
 unfold lastK at hF
 rw[if_pos rfl]at hF
 have c1:=HNM.out a1 0
 have s1:=textR_place (v:=1) (T:=T) HBY.out a1 0 ⟨by omega,hst0.1⟩
 generalize textR 1 T l a1 0=X1 at hF c1 s1
 obtain⟨x1,a2,e2⟩:=X1
 dsimp only at hF c1 s1
 unfold traceR at hF
 have c2:=HNU.out a2 e2
 have s2:=cuNum_step l HBY.out a2 e2
 have r2:=cuNum_rg (a:=a2) (e:=e2) HBY.out
 generalize cuNum l a2 e2=N2 at hF c2 s2 r2
 obtain⟨x2,a3,e3⟩:=N2
 dsimp only at hF c2 s2 r2
 have s2':=s2 s1
 have c3:=HNU.out a3 e3
 have s3:=cuNum_step l HBY.out a3 e3
 have r3:=cuNum_rg (a:=a3) (e:=e3) HBY.out
 generalize cuNum l a3 e3=N3 at hF c3 s3 r3
 obtain⟨nd,a4,e4⟩:=N3
 dsimp only at hF c3 s3 r3
 have s3':=s3 ⟨by omega,s2'.1⟩
 have c4:=HDE.out a4 e4 nd ⟨by omega,s3'.1⟩ r3
 generalize depsL 1 T l (l.length+2) nd a4 e4 []=DD at hF c4
 obtain⟨ds,a5,e5⟩:=DD
 dsimp only at hF c4
 have c5:=HNU.out a5 e5
 have s5:=cuNum_step l HBY.out a5 e5
 have r5:=cuNum_rg (a:=a5) (e:=e5) HBY.out
 generalize cuNum l a5 e5=N5 at hF c5 s5 r5
 obtain⟨x4,a6,e6⟩:=N5
 dsimp only at hF c5 s5 r5
 unfold tailR at hF
 rw[if_pos (by omega)]at hF
 try dsimp only at hF
 have hp1:decide (pl a1 0<0)=false:=by unfold pl;rw[if_pos rfl];exact decide_eq_false (by omega)
 have hn0:=HN0.out
 generalize pl a1 0=p1 at hF hn0 c1 c2 c3 c4 c5 hp1
 generalize pl a2 e2=p2 at hF hn0 c1 c2 c3 c4 c5
 generalize pl a3 e3=p3 at hF hn0 c1 c2 c3 c4 c5
 generalize pl a4 e4=p4 at hF hn0 c1 c2 c3 c4 c5
 generalize pl a5 e5=p5 at hF hn0 c1 c2 c3 c4 c5
 generalize pl a6 e6=p6 at hF hn0 c1 c2 c3 c4 c5
 have HEQ:=Lib.hid hF
 have C1:=Lib.hid c1
 have C2:=Lib.hid c2
 have C3:=Lib.hid c3
 have C4:=Lib.hid c4
 have C5:=Lib.hid c5
 replace HN0:=Lib.hid hn0
 clear hF hN1 hst0 hn0 c1 c2 c3 c4 c5 s1 s2 s3 s2' s3' s5
 have hkw:IntKind.i64.wrap 1=1:=by rw[IntKind.wrap_i64];omega
 go_enter Try.func76,Try.ntmps76
 go_wp2_with fail
 rw[HW1.out,HBB.out]
 refine(HN0.out w1).mono ?_
 rintro en y1 ⟨rfl,hb⟩
 have hl0:=HL1.out.below hb
 have hl1:=hl0
 obtain⟨wx0,wxf0,wx1,wxf1,wx2,wxf2⟩:=wf6 hl1.k8
 have hl2:=hl1.walk p1
 obtain⟨d0,d1,d2⟩:=wf3 hl2.k8
 have m0:(((y1.setCell ⟨b+1,0,none⟩ (.string s)).setCell ⟨b+1,1,none⟩ (.int .i64 p1)).setCell ⟨b+1,2,none⟩ (.slice A T.length c)).cell? ⟨b+1+1,0,none⟩=some (.int .i64 0):=(blk_cell hl2.k9 0).trans rfl
 have mf0:=blk_frozen hl2.k9 0
 have hl2:=hl2.field 0 (.int .i64 1) (k':=1) (x1':=⟨#[]⟩) (x2':=0) (dv':= .slice none 0 0) (ds':=[]) (x4':=0) (x5':=0) (x6':=⟨#[]⟩) hl2.row rfl
 obtain⟨n0,n1,n2⟩:=wf3 hl2.k8
 obtain⟨z1,hz⟩: ∃x,((((y1.setCell ⟨b+1,0,none⟩ (.string s)).setCell ⟨b+1,1,none⟩ (.int .i64 p1)).setCell ⟨b+1,2,none⟩ (.slice A T.length c)).setCell ⟨b+1+1,0,none⟩ (.int .i64 1))=x:=⟨_,rfl⟩
 rw[hz]at hl2
 have HLz1:=Lib.hid hl2
 have HWz1:=Lib.hid hz
 clear hb hl0 hl1 hl2 hz
 go_wp2_with fail
 clear wx0 wxf0 wx1 wxf1 wx2 wxf2 d0 d1 d2 m0 mf0 n0 n1 n2
 rw[HWz1.out]
 refine(C1.out _ HLz1.out.bl).mono ?_
 rintro en y2 ⟨rfl,hb⟩
 have hl0:=HLz1.out.below hb
 have g1:y2.cell? ⟨b+1+1,1,none⟩=some (.string ⟨#[]⟩):=(blk_cell hl0.k9 1).trans rfl
 have gf1:=blk_frozen hl0.k9 1
 have hl1:=hl0.field 1 (.string x1) (k':=1) (x1':=x1) (x2':=0) (dv':= .slice none 0 0) (ds':=[]) (x4':=0) (x5':=0) (x6':=⟨#[]⟩) hl0.row rfl
 obtain⟨wx0,wxf0,wx1,wxf1,wx2,wxf2⟩:=wf6 hl1.k8
 have hl2:=hl1.walk p2
 obtain⟨d0,d1,d2⟩:=wf3 hl2.k8
 obtain⟨z2,hz⟩: ∃x,((((y2.setCell ⟨b+1+1,1,none⟩ (.string x1)).setCell ⟨b+1,0,none⟩ (.string s)).setCell ⟨b+1,1,none⟩ (.int .i64 p2)).setCell ⟨b+1,2,none⟩ (.slice A T.length c))=x:=⟨_,rfl⟩
 rw[hz]at hl2
 have HLz2:=Lib.hid hl2
 have HWz2:=Lib.hid hz
 clear hb hl0 hl1 hl2 hz
 go_wp2_with fail
 clear wx0 wxf0 wx1 wxf1 wx2 wxf2 d0 d1 d2 g1 gf1
 rw[HWz2.out]
 refine(C2.out _).mono ?_
 rintro en y3 ⟨rfl,hb⟩
 have hl0:=HLz2.out.below hb
 have g2:y3.cell? ⟨b+1+1,2,none⟩=some (.int .u64 0):=(blk_cell hl0.k9 2).trans rfl
 have gf2:=blk_frozen hl0.k9 2
 have hl1:=hl0.field 2 (.int .u64 x2) (k':=1) (x1':=x1) (x2':=x2) (dv':= .slice none 0 0) (ds':=[]) (x4':=0) (x5':=0) (x6':=⟨#[]⟩) hl0.row rfl
 obtain⟨wx0,wxf0,wx1,wxf1,wx2,wxf2⟩:=wf6 hl1.k8
 have hl2:=hl1.walk p3
 obtain⟨d0,d1,d2⟩:=wf3 hl2.k8
 obtain⟨z3,hz⟩: ∃x,((((y3.setCell ⟨b+1+1,2,none⟩ (.int .u64 x2)).setCell ⟨b+1,0,none⟩ (.string s)).setCell ⟨b+1,1,none⟩ (.int .i64 p3)).setCell ⟨b+1,2,none⟩ (.slice A T.length c))=x:=⟨_,rfl⟩
 rw[hz]at hl2
 have HLz3:=Lib.hid hl2
 have HWz3:=Lib.hid hz
 clear hb hl0 hl1 hl2 hz
 go_wp2_with fail
 clear wx0 wxf0 wx1 wxf1 wx2 wxf2 d0 d1 d2 g2 gf2
 rw[HWz3.out]
 refine(C3.out _).mono ?_
 rintro en y4 ⟨rfl,hb⟩
 have hl0:=HLz3.out.below hb
 have hl1:=hl0
 obtain⟨wx0,wxf0,wx1,wxf1,wx2,wxf2⟩:=wf6 hl1.k8
 have hl2:=hl1.walk p4
 obtain⟨d0,d1,d2⟩:=wf3 hl2.k8
 obtain⟨z4,hz⟩: ∃x,(((y4.setCell ⟨b+1,0,none⟩ (.string s)).setCell ⟨b+1,1,none⟩ (.int .i64 p4)).setCell ⟨b+1,2,none⟩ (.slice A T.length c))=x:=⟨_,rfl⟩
 rw[hz]at hl2
 have HLz4:=Lib.hid hl2
 have HWz4:=Lib.hid hz
 clear hb hl0 hl1 hl2 hz
 go_wp2_with fail
 clear wx0 wxf0 wx1 wxf1 wx2 wxf2 d0 d1 d2
 rw[HWz4.out]
 refine(C4.out _ HLz4.out.bl).mono ?_
 rintro en y5 ⟨dv,rfl,hR,hb⟩
 obtain⟨Ad,cd,rfl⟩:=Kd.R_slice hR
 have hl0:=HLz4.out.below hb
 have g3:y5.cell? ⟨b+1+1,3,none⟩=some (.slice none 0 0):=(blk_cell hl0.k9 3).trans rfl
 have gf3:=blk_frozen hl0.k9 3
 have hl1:=hl0.field 3 (.slice Ad ds.length cd) (k':=1) (x1':=x1) (x2':=x2) (dv':= .slice Ad ds.length cd) (ds':=ds) (x4':=0) (x5':=0) (x6':=⟨#[]⟩) (Kd.R_lower hR (by have:=blk_lt HLz4.out.k9;omega)) rfl
 obtain⟨wx0,wxf0,wx1,wxf1,wx2,wxf2⟩:=wf6 hl1.k8
 have hl2:=hl1.walk p5
 obtain⟨d0,d1,d2⟩:=wf3 hl2.k8
 obtain⟨z5,hz⟩: ∃x,((((y5.setCell ⟨b+1+1,3,none⟩ (.slice Ad ds.length cd)).setCell ⟨b+1,0,none⟩ (.string s)).setCell ⟨b+1,1,none⟩ (.int .i64 p5)).setCell ⟨b+1,2,none⟩ (.slice A T.length c))=x:=⟨_,rfl⟩
 rw[hz]at hl2
 have HLz5:=Lib.hid hl2
 have HWz5:=Lib.hid hz
 clear hb hl0 hl1 hl2 hz hR
 go_wp2_with fail
 clear wx0 wxf0 wx1 wxf1 wx2 wxf2 d0 d1 d2 g3 gf3
 rw[HWz5.out]
 refine(C5.out _).mono ?_
 rintro en y6 ⟨rfl,hb⟩
 have hl0:=HLz5.out.below hb
 have g4:y6.cell? ⟨b+1+1,4,none⟩=some (.int .u64 0):=(blk_cell hl0.k9 4).trans rfl
 have gf4:=blk_frozen hl0.k9 4
 have hl1:=hl0.field 4 (.int .u64 x4) (k':=1) (x1':=x1) (x2':=x2) (dv':= .slice Ad ds.length cd) (ds':=ds) (x4':=x4) (x5':=0) (x6':=⟨#[]⟩) hl0.row rfl
 obtain⟨wx0,wxf0,wx1,wxf1,wx2,wxf2⟩:=wf6 hl1.k8
 have hl2:=hl1.walk p6
 obtain⟨d0,d1,d2⟩:=wf3 hl2.k8
 obtain⟨z6,hz⟩: ∃x,((((y6.setCell ⟨b+1+1,4,none⟩ (.int .u64 x4)).setCell ⟨b+1,0,none⟩ (.string s)).setCell ⟨b+1,1,none⟩ (.int .i64 p6)).setCell ⟨b+1,2,none⟩ (.slice A T.length c))=x:=⟨_,rfl⟩
 rw[hz]at hl2
 have HLz6:=Lib.hid hl2
 have HWz6:=Lib.hid hz
 clear hb hl0 hl1 hl2 hz
 go_wp2_with fail
 clear wx0 wxf0 wx1 wxf1 wx2 wxf2 d0 d1 d2 g4 gf4
 rw[HWz6.out]
 have hl9:=HLz6.out
 obtain⟨pp,hpp⟩: ∃x,p6=x:=⟨_,rfl⟩
 rw[hpp]at hl9
 have heq:=HEQ.out
 rw[hpp]at heq
 have HL9:=Lib.hid hl9
 have HPP:=Lib.hid hpp
 obtain⟨ok,hok⟩: ∃x,decide (pp=(l.length:Int))=x:=⟨_,rfl⟩
 have hok2:(pp==(l.length:Int))=ok:=by rw[←hok,Bool.eq_iff_iff];simp
 rw[hok]at heq
 have HEQ2:=Lib.hid heq
 clear heq
 have HOK:=Lib.hid (And.intro hok hok2)
 have kT1:=And.intro hl9.k8 (And.intro hl9.k9 (Kd.R_mono (ok':=fun k=>k≠b) (Kd.R_bound hl9.row) (fun k hk=>by have:=hk.2.1;omega)))
 have kT3:=hl9.k6
 have hsz:=hl9.bl.size
 have hb3w:=HBB.out
 clear hl9 hpp hok hok2
 refine region_one (n:=8) (base:=w.heap.size) (w0:=w) (b:=b) (jw:=6) (byList [isV (.agg #[.int .i64 1, .string x1, .int .u64 x2, .slice Ad ds.length cd, .int .u64 x4, .int .u64 0, .string ⟨#[]⟩]),isV (.pointer (some ⟨b+1,1,none⟩)),isV (.int .i64 pp),isV (.string s),isV (.int .i64 (l.length:Int)),isV (.bool ok),(fun _ _=>True),isV (.bool ok)]) (fun W=>W.heap[b+1]? =some (.cells #[.string s, .int .i64 pp, .slice A T.length c] 167 (0,0))∧W.heap[b+1+1]? =some (.cells #[.int .i64 1, .string x1, .int .u64 x2, .slice Ad ds.length cd, .int .u64 x4, .int .u64 0, .string ⟨#[]⟩] 62 (0,0))∧Kd.R k109 109 W (b+3) (fun k=>k≠b) (.slice Ad ds.length cd) (ds)) (fun W=>W.heap[b]? =some (.cells #[.int .i64 0, .string ⟨#[]⟩, .int .u64 0, .slice none 0 0, .int .u64 0, .int .u64 0, .string ⟨#[]⟩] 62 (0,0))) (fun W=>W.heap[b]? =some (.cells #[.int .i64 1, .string x1, .int .u64 x2, .slice Ad ds.length cd, .int .u64 x4, .int .u64 0, .string ⟨#[]⟩] 62 (0,0))) (by kernel_rfl) rfl (by omega) (byList_any ?_) (by kernel_rfl) (by kernel_rfl) (by omega) (fun W W' row hrow h hg=>⟨blk_grown' h.1 hg (by rcases hrow with rfl|rfl<;>simp<;>omega),blk_grown' h.2.1 hg (by rcases hrow with rfl|rfl<;>simp<;>omega),Kd.R_grown h.2.2 hg (fun k hk=>by rcases hrow with rfl|rfl<;>simp;omega)⟩) (fun W W' h hg=>blk_below h (below_none hg)) (fun W W' h hg=>blk_below h (below_none hg)) HL9.out.bl (Nat.le_refl _) kT1 kT3 (show AllLt 8 _ from ?_) ?_
 ·intro p hp
  simp only[List.mem_cons,List.not_mem_nil,or_false]at hp
  rcases hp with rfl|rfl|rfl|rfl|rfl|rfl|rfl|rfl<;>exact fun _ _ _ h=>h
 ·refine allLt_succ (allLt_succ (allLt_succ (allLt_succ (allLt_succ (allLt_succ (allLt_succ (allLt_succ (allLt_zero _) ?_) ?_) ?_) ?_) ?_) ?_) ?_) ?_
  ·refine StepOkO.run (get_lit rfl) rfl (by omega) fun a W hS hB hd hR=> ?_
   have e9:=hS.get (t:=9) rfl rfl
   refine wp_value (c:= .agg #[.int .i64 1, .string x1, .int .u64 x2, .slice Ad ds.length cd, .int .u64 x4, .int .u64 0, .string ⟨#[]⟩]) ?_ rfl
   obtain⟨c0,c1,c2,c3,c4,c5,c6⟩:=facts7 hR.2.1
   go_simp
  ·refine StepOkO.run (get_lit rfl) rfl (by omega) fun a W hS hB hd hR=> ?_
   have e8:=hS.get (t:=8) rfl rfl
   refine wp_value (c:= .pointer (some ⟨b+1,1,none⟩)) ?_ rfl
   go_simp
  ·refine StepOkO.run (get_lit rfl) rfl (by omega) fun a W hS hB hd hR=> ?_
   have e96:=(hd 1 rfl).bool rfl rfl rfl
   refine wp_value (c:= .int .i64 pp) ?_ rfl
   have c0:W.cell? ⟨b+1,0,none⟩=some (.string s):=(blk_cell hR.1 0).trans rfl
   have c1:W.cell? ⟨b+1,1,none⟩=some (.int .i64 pp):=(blk_cell hR.1 1).trans rfl
   have c2:W.cell? ⟨b+1,2,none⟩=some (.slice A T.length c):=(blk_cell hR.1 2).trans rfl
   go_simp
  ·refine StepOkO.run (get_lit rfl) rfl (by omega) fun a W hS hB hd hR=> ?_
   have e2:=hS.get (t:=2) rfl rfl
   refine wp_value (c:= .string s) ?_ rfl
   go_simp
  ·refine StepOkO.run (get_lit rfl) rfl (by omega) fun a W hS hB hd hR=> ?_
   have e98:=(hd 3 rfl).bool rfl rfl rfl
   refine wp_value (c:= .int .i64 (l.length:Int)) ?_ rfl
   have hsz9:=hss
   go_simp
  ·refine StepOkO.run (get_lit rfl) rfl (by omega) fun a W hS hB hd hR=> ?_
   have e97:=(hd 2 rfl).bool rfl rfl rfl
   have e99:=(hd 4 rfl).bool rfl rfl rfl
   refine wp_value (c:= .bool ok) ?_ rfl
   obtain⟨ho1,ho2⟩:=HOK.out
   go_simp
  ·refine StepOkO.write (get_lit rfl) rfl rfl rfl fun a W hS hB hd hR hP=> ?_
   have e6:=hS.get (t:=6) rfl rfl
   have e95:=(hd 0 rfl).bool rfl rfl rfl
   obtain⟨z0,zf0,z1,zf1,z2,zf2,z3,zf3,z4,zf4,z5,zf5,z6,zf6⟩:=facts7f hP
   refine⟨_, ?_,grown_put (grown_put (grown_put (grown_put (grown_put (grown_put (grown_put (World.grownBy.refl _ _) (.int .i64 1)) (.string x1)) (.int .u64 x2)) (.slice Ad ds.length cd)) (.int .u64 x4)) (.int .u64 0)) (.string ⟨#[]⟩),blk_put7 hP _ _ _ _ _ _ _⟩
   go_simp
  ·refine StepOkO.run (get_lit rfl) rfl (by omega) fun a W hS hB hd hR=> ?_
   have e100:=(hd 5 rfl).bool rfl rfl rfl
   refine wp_value (c:= .bool ok) ?_ rfl
   go_simp
 ·intro a W hS hB hh hRD hFD
  have e7:a.tmps[7]? =some (.bool ok):=(hh 7 (by omega)).bool rfl rfl rfl
  have HBR:=Lib.hid hB
  obtain⟨zz,hlit,hzz⟩:=same_litz hS
  clear hh hS hB
  simp only[List.filterMap_cons,List.filterMap_nil,List.foldl_cons,List.foldl_nil,List.setIfInBounds_toArray,List.set_cons_zero,List.set_cons_succ]at hlit
  rw[hzz 7 _ e7]at hlit
  clear e7
  clear hzz;subst hlit
  go_wp2_with fail
  refine bodyPost_ret (results_ct rfl _ _ b 62 #[_,_,_,_,_,_,_] (0,0) _ rfl hFD HU.out rfl (by kernel_rfl)) rfl ?_
  rw[←HEQ2.out]
  exact⟨_,rfl,Kd.R_mono (Kd.R_lower hRD.2.2 (by omega)) (fun _ _=>trivial),HBR.out⟩
set_option maxRecDepth 100000 in
set_option maxHeartbeats 4000000 in
theorem wlast_v2 {l:List Int} (hb: ∀x∈l,0≤x∧x<256) (hl:l.length≤1000000) (A:Option Addr) (c:Nat) (T:List ByteArray) (hT:T.length≤1000000) (w:World) (hC:Kd.C Kd.string w A T.length T) (hgd: ∀{k a1 e1:Int},cuNum l 0 0=(k,a1,e1)→k=1∧e1=0):
  Calls Try.prog 76 #[.int .i64 2, .slice A T.length c, .string (strOfNums l)] w (RLastPost w (lastW 2 T l)):=by
 have HNU:=Lib.hid (fun(a e:Int) (W:World)=>wnum_is hb hl a e A T.length c W)
 have HNM:=Lib.hid (fun(a e:Int) (W:World) (h:Below w.heap.size w W)=>wname_is 2 hb hl a e A c T hT W (Kd.C_below hC h))
 have HKN:=Lib.hid (fun(a e m:Int) (hm:0≤m∧m<18446744073709551616) (W:World) (h:Below w.heap.size w W)=>wknown_is (strOfNums l) a e A c T hT m hm W (Kd.C_below hC h))
 have HDE:=Lib.hid (fun(a e m:Int) (ha:0≤a∧a≤(l.length:Int)) (hm:0≤m∧m<18446744073709551616) (W:World) (h:Below w.heap.size w W)=>wdeps_is 2 hb hl a e ha A c T hT m hm W (Kd.C_below hC h))
 have hss:(strOfNums l).size=l.length:=strOfNums_size l
 obtain⟨s,hs⟩: ∃s,strOfNums l=s:=⟨_,rfl⟩
 rw[hs]at HNU HNM HKN HDE hss ⊢
 have HN0:=Lib.hid (HNU.out 0 0)
 have hst0:=cuNum_step l hb 0 0 ⟨by omega,by omega⟩
 obtain⟨F,hF⟩: ∃F,lastW 2 T l=F:=⟨_,rfl⟩
 rw[hF]
 have HF:=Lib.hid hF
 unfold lastW at hF
 have HBY:=Lib.hid hb
 clear hC hs hb
 obtain⟨w1,hw1⟩: ∃w1,((w.alloc (.cells #[.int .i64 0, .string ⟨#[]⟩, .int .u64 0, .slice none 0 0, .int .u64 0, .int .u64 0, .string ⟨#[]⟩] 62)).alloc (.cells #[.string s, .int .i64 0, .slice A T.length c] 167)).alloc (.cells #[.int .i64 0, .string ⟨#[]⟩, .int .u64 0, .slice none 0 0, .int .u64 0, .int .u64 0, .string ⟨#[]⟩] 62)=w1:=⟨_,rfl⟩
 have hb1:Below w.heap.size w w1:=by rw[←hw1];exact(((Below.refl _ _).alloc (Nat.le_refl _) _).alloc (by rw[heap_size_alloc];omega) _).alloc (by rw[heap_size_alloc,heap_size_alloc];omega) _
 have hk6:w1.heap[w.heap.size]? =some (.cells #[.int .i64 0, .string ⟨#[]⟩, .int .u64 0, .slice none 0 0, .int .u64 0, .int .u64 0, .string ⟨#[]⟩] 62 (0,0)):=by rw[←hw1];exact blk_alloc (blk_alloc (heap_new _ _) _) _
 have hk8:w1.heap[w.heap.size+1]? =some (.cells #[.string s, .int .i64 0, .slice A T.length c] 167 (0,0)):=by
  rw[←hw1]
  have:=heap_new (w.alloc (.cells #[.int .i64 0, .string ⟨#[]⟩, .int .u64 0, .slice none 0 0, .int .u64 0, .int .u64 0, .string ⟨#[]⟩] 62)) (.cells #[.string s, .int .i64 0, .slice A T.length c] 167)
  rw[heap_size_alloc]at this
  exact blk_alloc this _
 have hk9:w1.heap[w.heap.size+2]? =some (.cells #[.int .i64 0, .string ⟨#[]⟩, .int .u64 0, .slice none 0 0, .int .u64 0, .int .u64 0, .string ⟨#[]⟩] 62 (0,0)):=by
  rw[←hw1]
  have:=heap_new ((w.alloc (.cells #[.int .i64 0, .string ⟨#[]⟩, .int .u64 0, .slice none 0 0, .int .u64 0, .int .u64 0, .string ⟨#[]⟩] 62)).alloc (.cells #[.string s, .int .i64 0, .slice A T.length c] 167)) (.cells #[.int .i64 0, .string ⟨#[]⟩, .int .u64 0, .slice none 0 0, .int .u64 0, .int .u64 0, .string ⟨#[]⟩] 62)
  rwa [heap_size_alloc,heap_size_alloc]at this
 obtain⟨b,hbb⟩: ∃b,w.heap.size=b:=⟨_,rfl⟩
 rw[hbb]at hk6 hk8 hk9
 have HL1:Hid (LW w w1 b s A T.length c 0 0 ⟨#[]⟩ 0 (.slice none 0 0) [] 0 0 ⟨#[]⟩):=Lib.hid ⟨hk6,hk8,hk9,Kd.R_nil _ _ _ _ _,hb1,hbb⟩
 have HW1:=Lib.hid hw1
 have HBB:=Lib.hid hbb
 have HU:=Lib.hid Try.underlying62
 rw[show pl 0 0=0 from rfl]at HN0
 clear hk6 hk8 hk9 hb1 hw1 hbb
 generalize hN1:cuNum l 0 0=N1 at hF HN0 hst0
 obtain⟨k,a1,e1⟩:=N1
 dsimp only at hF HN0 hst0
 obtain⟨rfl,rfl⟩:=hgd hN1
 rw[if_neg (by omega)]at hF
 clear hgd
 unfold lastK at hF
 rw[if_pos rfl]at hF
 have c1:=HNM.out a1 0
 have s1:=textR_place (v:=2) (T:=T) HBY.out a1 0 ⟨by omega,hst0.1⟩
 generalize textR 2 T l a1 0=X1 at hF c1 s1
 obtain⟨x1,a2,e2⟩:=X1
 dsimp only at hF c1 s1
 unfold traceR at hF
 have c2:=HNU.out a2 e2
 have s2:=cuNum_step l HBY.out a2 e2
 have r2:=cuNum_rg (a:=a2) (e:=e2) HBY.out
 generalize cuNum l a2 e2=N2 at hF c2 s2 r2
 obtain⟨x2,a3,e3⟩:=N2
 dsimp only at hF c2 s2 r2
 have s2':=s2 s1
 have c3:=HNU.out a3 e3
 have s3:=cuNum_step l HBY.out a3 e3
 have r3:=cuNum_rg (a:=a3) (e:=e3) HBY.out
 generalize cuNum l a3 e3=N3 at hF c3 s3 r3
 obtain⟨nd,a4,e4⟩:=N3
 dsimp only at hF c3 s3 r3
 have s3':=s3 ⟨by omega,s2'.1⟩
 have c4:=HDE.out a4 e4 nd ⟨by omega,s3'.1⟩ r3
 generalize depsL 2 T l (l.length+2) nd a4 e4 []=DD at hF c4
 obtain⟨ds,a5,e5⟩:=DD
 dsimp only at hF c4
 have c5:=HNU.out a5 e5
 have s5:=cuNum_step l HBY.out a5 e5
 have r5:=cuNum_rg (a:=a5) (e:=e5) HBY.out
 generalize cuNum l a5 e5=N5 at hF c5 s5 r5
 obtain⟨x4,a6,e6⟩:=N5
 dsimp only at hF c5 s5 r5
 unfold tailR at hF
 rw[if_neg (by omega),if_pos (by omega)]at hF
 have c6:=HNU.out a6 e6
 have s6:=cuNum_step l HBY.out a6 e6
 have r6:=cuNum_rg (a:=a6) (e:=e6) HBY.out
 generalize cuNum l a6 e6=N6 at hF c6 s6 r6
 obtain⟨x5,a7,e7⟩:=N6
 dsimp only at hF c6 s6 r6
 try dsimp only at hF
 have hp1:decide (pl a1 0<0)=false:=by unfold pl;rw[if_pos rfl];exact decide_eq_false (by omega)
 have hn0:=HN0.out
 generalize pl a1 0=p1 at hF hn0 c1 c2 c3 c4 c5 c6 hp1
 generalize pl a2 e2=p2 at hF hn0 c1 c2 c3 c4 c5 c6
 generalize pl a3 e3=p3 at hF hn0 c1 c2 c3 c4 c5 c6
 generalize pl a4 e4=p4 at hF hn0 c1 c2 c3 c4 c5 c6
 generalize pl a5 e5=p5 at hF hn0 c1 c2 c3 c4 c5 c6
 generalize pl a6 e6=p6 at hF hn0 c1 c2 c3 c4 c5 c6
 generalize pl a7 e7=p7 at hF hn0 c1 c2 c3 c4 c5 c6
 have HEQ:=Lib.hid hF
 have C1:=Lib.hid c1
 have C2:=Lib.hid c2
 have C3:=Lib.hid c3
 have C4:=Lib.hid c4
 have C5:=Lib.hid c5
 have C6:=Lib.hid c6
 replace HN0:=Lib.hid hn0
 clear hF hN1 hst0 hn0 c1 c2 c3 c4 c5 c6 s1 s2 s3 s2' s3' s5 s6
 have hkw:IntKind.i64.wrap 1=1:=by rw[IntKind.wrap_i64];omega
 go_enter Try.func76,Try.ntmps76
 go_wp2_with fail
 rw[HW1.out,HBB.out]
 refine(HN0.out w1).mono ?_
 rintro en y1 ⟨rfl,hb⟩
 have hl0:=HL1.out.below hb
 have hl1:=hl0
 obtain⟨wx0,wxf0,wx1,wxf1,wx2,wxf2⟩:=wf6 hl1.k8
 have hl2:=hl1.walk p1
 obtain⟨d0,d1,d2⟩:=wf3 hl2.k8
 have m0:(((y1.setCell ⟨b+1,0,none⟩ (.string s)).setCell ⟨b+1,1,none⟩ (.int .i64 p1)).setCell ⟨b+1,2,none⟩ (.slice A T.length c)).cell? ⟨b+1+1,0,none⟩=some (.int .i64 0):=(blk_cell hl2.k9 0).trans rfl
 have mf0:=blk_frozen hl2.k9 0
 have hl2:=hl2.field 0 (.int .i64 1) (k':=1) (x1':=⟨#[]⟩) (x2':=0) (dv':= .slice none 0 0) (ds':=[]) (x4':=0) (x5':=0) (x6':=⟨#[]⟩) hl2.row rfl
 obtain⟨n0,n1,n2⟩:=wf3 hl2.k8
 obtain⟨z1,hz⟩: ∃x,((((y1.setCell ⟨b+1,0,none⟩ (.string s)).setCell ⟨b+1,1,none⟩ (.int .i64 p1)).setCell ⟨b+1,2,none⟩ (.slice A T.length c)).setCell ⟨b+1+1,0,none⟩ (.int .i64 1))=x:=⟨_,rfl⟩
 rw[hz]at hl2
 have HLz1:=Lib.hid hl2
 have HWz1:=Lib.hid hz
 clear hb hl0 hl1 hl2 hz
 go_wp2_with fail
 clear wx0 wxf0 wx1 wxf1 wx2 wxf2 d0 d1 d2 m0 mf0 n0 n1 n2
 rw[HWz1.out]
 refine(C1.out _ HLz1.out.bl).mono ?_
 rintro en y2 ⟨rfl,hb⟩
 have hl0:=HLz1.out.below hb
 have g1:y2.cell? ⟨b+1+1,1,none⟩=some (.string ⟨#[]⟩):=(blk_cell hl0.k9 1).trans rfl
 have gf1:=blk_frozen hl0.k9 1
 have hl1:=hl0.field 1 (.string x1) (k':=1) (x1':=x1) (x2':=0) (dv':= .slice none 0 0) (ds':=[]) (x4':=0) (x5':=0) (x6':=⟨#[]⟩) hl0.row rfl
 obtain⟨wx0,wxf0,wx1,wxf1,wx2,wxf2⟩:=wf6 hl1.k8
 have hl2:=hl1.walk p2
 obtain⟨d0,d1,d2⟩:=wf3 hl2.k8
 obtain⟨z2,hz⟩: ∃x,((((y2.setCell ⟨b+1+1,1,none⟩ (.string x1)).setCell ⟨b+1,0,none⟩ (.string s)).setCell ⟨b+1,1,none⟩ (.int .i64 p2)).setCell ⟨b+1,2,none⟩ (.slice A T.length c))=x:=⟨_,rfl⟩
 rw[hz]at hl2
 have HLz2:=Lib.hid hl2
 have HWz2:=Lib.hid hz
 clear hb hl0 hl1 hl2 hz
 go_wp2_with fail
 clear wx0 wxf0 wx1 wxf1 wx2 wxf2 d0 d1 d2 g1 gf1
 rw[HWz2.out]
 refine(C2.out _).mono ?_
 rintro en y3 ⟨rfl,hb⟩
 have hl0:=HLz2.out.below hb
 have g2:y3.cell? ⟨b+1+1,2,none⟩=some (.int .u64 0):=(blk_cell hl0.k9 2).trans rfl
 have gf2:=blk_frozen hl0.k9 2
 have hl1:=hl0.field 2 (.int .u64 x2) (k':=1) (x1':=x1) (x2':=x2) (dv':= .slice none 0 0) (ds':=[]) (x4':=0) (x5':=0) (x6':=⟨#[]⟩) hl0.row rfl
 obtain⟨wx0,wxf0,wx1,wxf1,wx2,wxf2⟩:=wf6 hl1.k8
 have hl2:=hl1.walk p3
 obtain⟨d0,d1,d2⟩:=wf3 hl2.k8
 obtain⟨z3,hz⟩: ∃x,((((y3.setCell ⟨b+1+1,2,none⟩ (.int .u64 x2)).setCell ⟨b+1,0,none⟩ (.string s)).setCell ⟨b+1,1,none⟩ (.int .i64 p3)).setCell ⟨b+1,2,none⟩ (.slice A T.length c))=x:=⟨_,rfl⟩
 rw[hz]at hl2
 have HLz3:=Lib.hid hl2
 have HWz3:=Lib.hid hz
 clear hb hl0 hl1 hl2 hz
 go_wp2_with fail
 clear wx0 wxf0 wx1 wxf1 wx2 wxf2 d0 d1 d2 g2 gf2
 rw[HWz3.out]
 refine(C3.out _).mono ?_
 rintro en y4 ⟨rfl,hb⟩
 have hl0:=HLz3.out.below hb
 have hl1:=hl0
 obtain⟨wx0,wxf0,wx1,wxf1,wx2,wxf2⟩:=wf6 hl1.k8
 have hl2:=hl1.walk p4
 obtain⟨d0,d1,d2⟩:=wf3 hl2.k8
 obtain⟨z4,hz⟩: ∃x,(((y4.setCell ⟨b+1,0,none⟩ (.string s)).setCell ⟨b+1,1,none⟩ (.int .i64 p4)).setCell ⟨b+1,2,none⟩ (.slice A T.length c))=x:=⟨_,rfl⟩
 rw[hz]at hl2
 have HLz4:=Lib.hid hl2
 have HWz4:=Lib.hid hz
 clear hb hl0 hl1 hl2 hz
 go_wp2_with fail
 clear wx0 wxf0 wx1 wxf1 wx2 wxf2 d0 d1 d2
 rw[HWz4.out]
 refine(C4.out _ HLz4.out.bl).mono ?_
 rintro en y5 ⟨dv,rfl,hR,hb⟩
 obtain⟨Ad,cd,rfl⟩:=Kd.R_slice hR
 have hl0:=HLz4.out.below hb
 have g3:y5.cell? ⟨b+1+1,3,none⟩=some (.slice none 0 0):=(blk_cell hl0.k9 3).trans rfl
 have gf3:=blk_frozen hl0.k9 3
 have hl1:=hl0.field 3 (.slice Ad ds.length cd) (k':=1) (x1':=x1) (x2':=x2) (dv':= .slice Ad ds.length cd) (ds':=ds) (x4':=0) (x5':=0) (x6':=⟨#[]⟩) (Kd.R_lower hR (by have:=blk_lt HLz4.out.k9;omega)) rfl
 obtain⟨wx0,wxf0,wx1,wxf1,wx2,wxf2⟩:=wf6 hl1.k8
 have hl2:=hl1.walk p5
 obtain⟨d0,d1,d2⟩:=wf3 hl2.k8
 obtain⟨z5,hz⟩: ∃x,((((y5.setCell ⟨b+1+1,3,none⟩ (.slice Ad ds.length cd)).setCell ⟨b+1,0,none⟩ (.string s)).setCell ⟨b+1,1,none⟩ (.int .i64 p5)).setCell ⟨b+1,2,none⟩ (.slice A T.length c))=x:=⟨_,rfl⟩
 rw[hz]at hl2
 have HLz5:=Lib.hid hl2
 have HWz5:=Lib.hid hz
 clear hb hl0 hl1 hl2 hz hR
 go_wp2_with fail
 clear wx0 wxf0 wx1 wxf1 wx2 wxf2 d0 d1 d2 g3 gf3
 rw[HWz5.out]
 refine(C5.out _).mono ?_
 rintro en y6 ⟨rfl,hb⟩
 have hl0:=HLz5.out.below hb
 have g4:y6.cell? ⟨b+1+1,4,none⟩=some (.int .u64 0):=(blk_cell hl0.k9 4).trans rfl
 have gf4:=blk_frozen hl0.k9 4
 have hl1:=hl0.field 4 (.int .u64 x4) (k':=1) (x1':=x1) (x2':=x2) (dv':= .slice Ad ds.length cd) (ds':=ds) (x4':=x4) (x5':=0) (x6':=⟨#[]⟩) hl0.row rfl
 obtain⟨wx0,wxf0,wx1,wxf1,wx2,wxf2⟩:=wf6 hl1.k8
 have hl2:=hl1.walk p6
 obtain⟨d0,d1,d2⟩:=wf3 hl2.k8
 obtain⟨z6,hz⟩: ∃x,((((y6.setCell ⟨b+1+1,4,none⟩ (.int .u64 x4)).setCell ⟨b+1,0,none⟩ (.string s)).setCell ⟨b+1,1,none⟩ (.int .i64 p6)).setCell ⟨b+1,2,none⟩ (.slice A T.length c))=x:=⟨_,rfl⟩
 rw[hz]at hl2
 have HLz6:=Lib.hid hl2
 have HWz6:=Lib.hid hz
 clear hb hl0 hl1 hl2 hz
 go_wp2_with fail
 clear wx0 wxf0 wx1 wxf1 wx2 wxf2 d0 d1 d2 g4 gf4
 rw[HWz6.out]
 refine(C6.out _).mono ?_
 rintro en y7 ⟨rfl,hb⟩
 have hl0:=HLz6.out.below hb
 have g5:y7.cell? ⟨b+1+1,5,none⟩=some (.int .u64 0):=(blk_cell hl0.k9 5).trans rfl
 have gf5:=blk_frozen hl0.k9 5
 have hl1:=hl0.field 5 (.int .u64 x5) (k':=1) (x1':=x1) (x2':=x2) (dv':= .slice Ad ds.length cd) (ds':=ds) (x4':=x4) (x5':=x5) (x6':=⟨#[]⟩) hl0.row rfl
 obtain⟨wx0,wxf0,wx1,wxf1,wx2,wxf2⟩:=wf6 hl1.k8
 have hl2:=hl1.walk p7
 obtain⟨d0,d1,d2⟩:=wf3 hl2.k8
 obtain⟨z7,hz⟩: ∃x,((((y7.setCell ⟨b+1+1,5,none⟩ (.int .u64 x5)).setCell ⟨b+1,0,none⟩ (.string s)).setCell ⟨b+1,1,none⟩ (.int .i64 p7)).setCell ⟨b+1,2,none⟩ (.slice A T.length c))=x:=⟨_,rfl⟩
 rw[hz]at hl2
 have HLz7:=Lib.hid hl2
 have HWz7:=Lib.hid hz
 clear hb hl0 hl1 hl2 hz
 go_wp2_with fail
 clear wx0 wxf0 wx1 wxf1 wx2 wxf2 d0 d1 d2 g5 gf5
 rw[HWz7.out]
 have hl9:=HLz7.out
 obtain⟨pp,hpp⟩: ∃x,p7=x:=⟨_,rfl⟩
 rw[hpp]at hl9
 have heq:=HEQ.out
 rw[hpp]at heq
 have HL9:=Lib.hid hl9
 have HPP:=Lib.hid hpp
 obtain⟨ok,hok⟩: ∃x,decide (pp=(l.length:Int))=x:=⟨_,rfl⟩
 have hok2:(pp==(l.length:Int))=ok:=by rw[←hok,Bool.eq_iff_iff];simp
 rw[hok]at heq
 have HEQ2:=Lib.hid heq
 clear heq
 have HOK:=Lib.hid (And.intro hok hok2)
 have kT1:=And.intro hl9.k8 (And.intro hl9.k9 (Kd.R_mono (ok':=fun k=>k≠b) (Kd.R_bound hl9.row) (fun k hk=>by have:=hk.2.1;omega)))
 have kT3:=hl9.k6
 have hsz:=hl9.bl.size
 have hb3w:=HBB.out
 clear hl9 hpp hok hok2
 refine region_one (n:=8) (base:=w.heap.size) (w0:=w) (b:=b) (jw:=6) (byList [isV (.agg #[.int .i64 1, .string x1, .int .u64 x2, .slice Ad ds.length cd, .int .u64 x4, .int .u64 x5, .string ⟨#[]⟩]),isV (.pointer (some ⟨b+1,1,none⟩)),isV (.int .i64 pp),isV (.string s),isV (.int .i64 (l.length:Int)),isV (.bool ok),(fun _ _=>True),isV (.bool ok)]) (fun W=>W.heap[b+1]? =some (.cells #[.string s, .int .i64 pp, .slice A T.length c] 167 (0,0))∧W.heap[b+1+1]? =some (.cells #[.int .i64 1, .string x1, .int .u64 x2, .slice Ad ds.length cd, .int .u64 x4, .int .u64 x5, .string ⟨#[]⟩] 62 (0,0))∧Kd.R k109 109 W (b+3) (fun k=>k≠b) (.slice Ad ds.length cd) (ds)) (fun W=>W.heap[b]? =some (.cells #[.int .i64 0, .string ⟨#[]⟩, .int .u64 0, .slice none 0 0, .int .u64 0, .int .u64 0, .string ⟨#[]⟩] 62 (0,0))) (fun W=>W.heap[b]? =some (.cells #[.int .i64 1, .string x1, .int .u64 x2, .slice Ad ds.length cd, .int .u64 x4, .int .u64 x5, .string ⟨#[]⟩] 62 (0,0))) (by kernel_rfl) rfl (by omega) (byList_any ?_) (by kernel_rfl) (by kernel_rfl) (by omega) (fun W W' row hrow h hg=>⟨blk_grown' h.1 hg (by rcases hrow with rfl|rfl<;>simp<;>omega),blk_grown' h.2.1 hg (by rcases hrow with rfl|rfl<;>simp<;>omega),Kd.R_grown h.2.2 hg (fun k hk=>by rcases hrow with rfl|rfl<;>simp;omega)⟩) (fun W W' h hg=>blk_below h (below_none hg)) (fun W W' h hg=>blk_below h (below_none hg)) HL9.out.bl (Nat.le_refl _) kT1 kT3 (show AllLt 8 _ from ?_) ?_
 ·intro p hp
  simp only[List.mem_cons,List.not_mem_nil,or_false]at hp
  rcases hp with rfl|rfl|rfl|rfl|rfl|rfl|rfl|rfl<;>exact fun _ _ _ h=>h
 ·refine allLt_succ (allLt_succ (allLt_succ (allLt_succ (allLt_succ (allLt_succ (allLt_succ (allLt_succ (allLt_zero _) ?_) ?_) ?_) ?_) ?_) ?_) ?_) ?_
  ·refine StepOkO.run (get_lit rfl) rfl (by omega) fun a W hS hB hd hR=> ?_
   have e9:=hS.get (t:=9) rfl rfl
   refine wp_value (c:= .agg #[.int .i64 1, .string x1, .int .u64 x2, .slice Ad ds.length cd, .int .u64 x4, .int .u64 x5, .string ⟨#[]⟩]) ?_ rfl
   obtain⟨c0,c1,c2,c3,c4,c5,c6⟩:=facts7 hR.2.1
   go_simp
  ·refine StepOkO.run (get_lit rfl) rfl (by omega) fun a W hS hB hd hR=> ?_
   have e8:=hS.get (t:=8) rfl rfl
   refine wp_value (c:= .pointer (some ⟨b+1,1,none⟩)) ?_ rfl
   go_simp
  ·refine StepOkO.run (get_lit rfl) rfl (by omega) fun a W hS hB hd hR=> ?_
   have e96:=(hd 1 rfl).bool rfl rfl rfl
   refine wp_value (c:= .int .i64 pp) ?_ rfl
   have c0:W.cell? ⟨b+1,0,none⟩=some (.string s):=(blk_cell hR.1 0).trans rfl
   have c1:W.cell? ⟨b+1,1,none⟩=some (.int .i64 pp):=(blk_cell hR.1 1).trans rfl
   have c2:W.cell? ⟨b+1,2,none⟩=some (.slice A T.length c):=(blk_cell hR.1 2).trans rfl
   go_simp
  ·refine StepOkO.run (get_lit rfl) rfl (by omega) fun a W hS hB hd hR=> ?_
   have e2:=hS.get (t:=2) rfl rfl
   refine wp_value (c:= .string s) ?_ rfl
   go_simp
  ·refine StepOkO.run (get_lit rfl) rfl (by omega) fun a W hS hB hd hR=> ?_
   have e98:=(hd 3 rfl).bool rfl rfl rfl
   refine wp_value (c:= .int .i64 (l.length:Int)) ?_ rfl
   have hsz9:=hss
   go_simp
  ·refine StepOkO.run (get_lit rfl) rfl (by omega) fun a W hS hB hd hR=> ?_
   have e97:=(hd 2 rfl).bool rfl rfl rfl
   have e99:=(hd 4 rfl).bool rfl rfl rfl
   refine wp_value (c:= .bool ok) ?_ rfl
   obtain⟨ho1,ho2⟩:=HOK.out
   go_simp
  ·refine StepOkO.write (get_lit rfl) rfl rfl rfl fun a W hS hB hd hR hP=> ?_
   have e6:=hS.get (t:=6) rfl rfl
   have e95:=(hd 0 rfl).bool rfl rfl rfl
   obtain⟨z0,zf0,z1,zf1,z2,zf2,z3,zf3,z4,zf4,z5,zf5,z6,zf6⟩:=facts7f hP
   refine⟨_, ?_,grown_put (grown_put (grown_put (grown_put (grown_put (grown_put (grown_put (World.grownBy.refl _ _) (.int .i64 1)) (.string x1)) (.int .u64 x2)) (.slice Ad ds.length cd)) (.int .u64 x4)) (.int .u64 x5)) (.string ⟨#[]⟩),blk_put7 hP _ _ _ _ _ _ _⟩
   go_simp
  ·refine StepOkO.run (get_lit rfl) rfl (by omega) fun a W hS hB hd hR=> ?_
   have e100:=(hd 5 rfl).bool rfl rfl rfl
   refine wp_value (c:= .bool ok) ?_ rfl
   go_simp
 ·intro a W hS hB hh hRD hFD
  have e7:a.tmps[7]? =some (.bool ok):=(hh 7 (by omega)).bool rfl rfl rfl
  have HBR:=Lib.hid hB
  obtain⟨zz,hlit,hzz⟩:=same_litz hS
  clear hh hS hB
  simp only[List.filterMap_cons,List.filterMap_nil,List.foldl_cons,List.foldl_nil,List.setIfInBounds_toArray,List.set_cons_zero,List.set_cons_succ]at hlit
  rw[hzz 7 _ e7]at hlit
  clear e7
  clear hzz;subst hlit
  go_wp2_with fail
  refine bodyPost_ret (results_ct rfl _ _ b 62 #[_,_,_,_,_,_,_] (0,0) _ rfl hFD HU.out rfl (by kernel_rfl)) rfl ?_
  rw[←HEQ2.out]
  exact⟨_,rfl,Kd.R_mono (Kd.R_lower hRD.2.2 (by omega)) (fun _ _=>trivial),HBR.out⟩
set_option maxRecDepth 100000 in
set_option maxHeartbeats 4000000 in
theorem wlast_v3 {l:List Int} (hb: ∀x∈l,0≤x∧x<256) (hl:l.length≤1000000) (A:Option Addr) (c:Nat) (T:List ByteArray) (hT:T.length≤1000000) (w:World) (hC:Kd.C Kd.string w A T.length T) (hgd: ∀{k a1 e1:Int},cuNum l 0 0=(k,a1,e1)→k=1∧e1=0):
  Calls Try.prog 76 #[.int .i64 3, .slice A T.length c, .string (strOfNums l)] w (RLastPost w (lastW 3 T l)):=by
 have HNU:=Lib.hid (fun(a e:Int) (W:World)=>wnum_is hb hl a e A T.length c W)
 have HNM:=Lib.hid (fun(a e:Int) (W:World) (h:Below w.heap.size w W)=>wname_is 3 hb hl a e A c T hT W (Kd.C_below hC h))
 have HKN:=Lib.hid (fun(a e m:Int) (hm:0≤m∧m<18446744073709551616) (W:World) (h:Below w.heap.size w W)=>wknown_is (strOfNums l) a e A c T hT m hm W (Kd.C_below hC h))
 have HDE:=Lib.hid (fun(a e m:Int) (ha:0≤a∧a≤(l.length:Int)) (hm:0≤m∧m<18446744073709551616) (W:World) (h:Below w.heap.size w W)=>wdeps_is 3 hb hl a e ha A c T hT m hm W (Kd.C_below hC h))
 have hss:(strOfNums l).size=l.length:=strOfNums_size l
 obtain⟨s,hs⟩: ∃s,strOfNums l=s:=⟨_,rfl⟩
 rw[hs]at HNU HNM HKN HDE hss ⊢
 have HN0:=Lib.hid (HNU.out 0 0)
 have hst0:=cuNum_step l hb 0 0 ⟨by omega,by omega⟩
 obtain⟨F,hF⟩: ∃F,lastW 3 T l=F:=⟨_,rfl⟩
 rw[hF]
 have HF:=Lib.hid hF
 unfold lastW at hF
 have HBY:=Lib.hid hb
 clear hC hs hb
 obtain⟨w1,hw1⟩: ∃w1,((w.alloc (.cells #[.int .i64 0, .string ⟨#[]⟩, .int .u64 0, .slice none 0 0, .int .u64 0, .int .u64 0, .string ⟨#[]⟩] 62)).alloc (.cells #[.string s, .int .i64 0, .slice A T.length c] 167)).alloc (.cells #[.int .i64 0, .string ⟨#[]⟩, .int .u64 0, .slice none 0 0, .int .u64 0, .int .u64 0, .string ⟨#[]⟩] 62)=w1:=⟨_,rfl⟩
 have hb1:Below w.heap.size w w1:=by rw[←hw1];exact(((Below.refl _ _).alloc (Nat.le_refl _) _).alloc (by rw[heap_size_alloc];omega) _).alloc (by rw[heap_size_alloc,heap_size_alloc];omega) _
 have hk6:w1.heap[w.heap.size]? =some (.cells #[.int .i64 0, .string ⟨#[]⟩, .int .u64 0, .slice none 0 0, .int .u64 0, .int .u64 0, .string ⟨#[]⟩] 62 (0,0)):=by rw[←hw1];exact blk_alloc (blk_alloc (heap_new _ _) _) _
 have hk8:w1.heap[w.heap.size+1]? =some (.cells #[.string s, .int .i64 0, .slice A T.length c] 167 (0,0)):=by
  rw[←hw1]
  have:=heap_new (w.alloc (.cells #[.int .i64 0, .string ⟨#[]⟩, .int .u64 0, .slice none 0 0, .int .u64 0, .int .u64 0, .string ⟨#[]⟩] 62)) (.cells #[.string s, .int .i64 0, .slice A T.length c] 167)
  rw[heap_size_alloc]at this
  exact blk_alloc this _
 have hk9:w1.heap[w.heap.size+2]? =some (.cells #[.int .i64 0, .string ⟨#[]⟩, .int .u64 0, .slice none 0 0, .int .u64 0, .int .u64 0, .string ⟨#[]⟩] 62 (0,0)):=by
  rw[←hw1]
  have:=heap_new ((w.alloc (.cells #[.int .i64 0, .string ⟨#[]⟩, .int .u64 0, .slice none 0 0, .int .u64 0, .int .u64 0, .string ⟨#[]⟩] 62)).alloc (.cells #[.string s, .int .i64 0, .slice A T.length c] 167)) (.cells #[.int .i64 0, .string ⟨#[]⟩, .int .u64 0, .slice none 0 0, .int .u64 0, .int .u64 0, .string ⟨#[]⟩] 62)
  rwa [heap_size_alloc,heap_size_alloc]at this
 obtain⟨b,hbb⟩: ∃b,w.heap.size=b:=⟨_,rfl⟩
 rw[hbb]at hk6 hk8 hk9
 have HL1:Hid (LW w w1 b s A T.length c 0 0 ⟨#[]⟩ 0 (.slice none 0 0) [] 0 0 ⟨#[]⟩):=Lib.hid ⟨hk6,hk8,hk9,Kd.R_nil _ _ _ _ _,hb1,hbb⟩
 have HW1:=Lib.hid hw1
 have HBB:=Lib.hid hbb
 have HU:=Lib.hid Try.underlying62
 rw[show pl 0 0=0 from rfl]at HN0
 clear hk6 hk8 hk9 hb1 hw1 hbb
 generalize hN1:cuNum l 0 0=N1 at hF HN0 hst0
 obtain⟨k,a1,e1⟩:=N1
 dsimp only at hF HN0 hst0
 obtain⟨rfl,rfl⟩:=hgd hN1
 rw[if_neg (by omega)]at hF
 clear hgd
 unfold lastK at hF
 rw[if_pos rfl]at hF
 have c1:=HNM.out a1 0
 have s1:=textR_place (v:=3) (T:=T) HBY.out a1 0 ⟨by omega,hst0.1⟩
 generalize textR 3 T l a1 0=X1 at hF c1 s1
 obtain⟨x1,a2,e2⟩:=X1
 dsimp only at hF c1 s1
 unfold traceR at hF
 have c2:=HNU.out a2 e2
 have s2:=cuNum_step l HBY.out a2 e2
 have r2:=cuNum_rg (a:=a2) (e:=e2) HBY.out
 generalize cuNum l a2 e2=N2 at hF c2 s2 r2
 obtain⟨x2,a3,e3⟩:=N2
 dsimp only at hF c2 s2 r2
 have s2':=s2 s1
 have c3:=HNU.out a3 e3
 have s3:=cuNum_step l HBY.out a3 e3
 have r3:=cuNum_rg (a:=a3) (e:=e3) HBY.out
 generalize cuNum l a3 e3=N3 at hF c3 s3 r3
 obtain⟨nd,a4,e4⟩:=N3
 dsimp only at hF c3 s3 r3
 have s3':=s3 ⟨by omega,s2'.1⟩
 have c4:=HDE.out a4 e4 nd ⟨by omega,s3'.1⟩ r3
 generalize depsL 3 T l (l.length+2) nd a4 e4 []=DD at hF c4
 obtain⟨ds,a5,e5⟩:=DD
 dsimp only at hF c4
 have c5:=HNU.out a5 e5
 have s5:=cuNum_step l HBY.out a5 e5
 have r5:=cuNum_rg (a:=a5) (e:=e5) HBY.out
 generalize cuNum l a5 e5=N5 at hF c5 s5 r5
 obtain⟨x4,a6,e6⟩:=N5
 dsimp only at hF c5 s5 r5
 unfold tailR at hF
 rw[if_neg (by omega),if_neg (by omega)]at hF
 have c6:=HNU.out a6 e6
 have s6:=cuNum_step l HBY.out a6 e6
 have r6:=cuNum_rg (a:=a6) (e:=e6) HBY.out
 generalize cuNum l a6 e6=N6 at hF c6 s6 r6
 obtain⟨x5,a7,e7⟩:=N6
 dsimp only at hF c6 s6 r6
 have c7:=HNU.out a7 e7
 have s7:=cuNum_step l HBY.out a7 e7
 have r7:=cuNum_rg (a:=a7) (e:=e7) HBY.out
 generalize cuNum l a7 e7=N7 at hF c7 s7 r7
 obtain⟨m,a8,e8⟩:=N7
 dsimp only at hF c7 s7 r7
 by_cases hm:0<m
 ·have hmd:decide (0<m)=true:=decide_eq_true hm
  rw[if_pos hm]at hF
  have hwm:IntKind.u64.wrap (m-1)=m-1:=by rw[IntKind.wrap_u64];omega
  have c8:=HKN.out a8 e8 (m-1) ⟨by omega,by omega⟩
  generalize txF T (m-1)=x6 at hF c8
  generalize txE T (m-1) e8=e9 at hF c8
  try dsimp only at hF
  have hp1:decide (pl a1 0<0)=false:=by unfold pl;rw[if_pos rfl];exact decide_eq_false (by omega)
  have hn0:=HN0.out
  generalize pl a1 0=p1 at hF hn0 c1 c2 c3 c4 c5 c6 c7 c8 hp1
  generalize pl a2 e2=p2 at hF hn0 c1 c2 c3 c4 c5 c6 c7 c8
  generalize pl a3 e3=p3 at hF hn0 c1 c2 c3 c4 c5 c6 c7 c8
  generalize pl a4 e4=p4 at hF hn0 c1 c2 c3 c4 c5 c6 c7 c8
  generalize pl a5 e5=p5 at hF hn0 c1 c2 c3 c4 c5 c6 c7 c8
  generalize pl a6 e6=p6 at hF hn0 c1 c2 c3 c4 c5 c6 c7 c8
  generalize pl a7 e7=p7 at hF hn0 c1 c2 c3 c4 c5 c6 c7 c8
  generalize pl a8 e8=p8 at hF hn0 c1 c2 c3 c4 c5 c6 c7 c8
  generalize pl a8 e9=p9 at hF hn0 c1 c2 c3 c4 c5 c6 c7 c8
  have HEQ:=Lib.hid hF
  have C1:=Lib.hid c1
  have C2:=Lib.hid c2
  have C3:=Lib.hid c3
  have C4:=Lib.hid c4
  have C5:=Lib.hid c5
  have C6:=Lib.hid c6
  have C7:=Lib.hid c7
  have C8:=Lib.hid c8
  replace HN0:=Lib.hid hn0
  clear hF hN1 hst0 hn0 c1 c2 c3 c4 c5 c6 c7 c8 s1 s2 s3 s2' s3' s5 s6 s7
  have hkw:IntKind.i64.wrap 1=1:=by rw[IntKind.wrap_i64];omega
  go_enter Try.func76,Try.ntmps76
  go_wp2_with fail
  rw[HW1.out,HBB.out]
  refine(HN0.out w1).mono ?_
  rintro en y1 ⟨rfl,hb⟩
  have hl0:=HL1.out.below hb
  have hl1:=hl0
  obtain⟨wx0,wxf0,wx1,wxf1,wx2,wxf2⟩:=wf6 hl1.k8
  have hl2:=hl1.walk p1
  obtain⟨d0,d1,d2⟩:=wf3 hl2.k8
  have m0:(((y1.setCell ⟨b+1,0,none⟩ (.string s)).setCell ⟨b+1,1,none⟩ (.int .i64 p1)).setCell ⟨b+1,2,none⟩ (.slice A T.length c)).cell? ⟨b+1+1,0,none⟩=some (.int .i64 0):=(blk_cell hl2.k9 0).trans rfl
  have mf0:=blk_frozen hl2.k9 0
  have hl2:=hl2.field 0 (.int .i64 1) (k':=1) (x1':=⟨#[]⟩) (x2':=0) (dv':= .slice none 0 0) (ds':=[]) (x4':=0) (x5':=0) (x6':=⟨#[]⟩) hl2.row rfl
  obtain⟨n0,n1,n2⟩:=wf3 hl2.k8
  obtain⟨z1,hz⟩: ∃x,((((y1.setCell ⟨b+1,0,none⟩ (.string s)).setCell ⟨b+1,1,none⟩ (.int .i64 p1)).setCell ⟨b+1,2,none⟩ (.slice A T.length c)).setCell ⟨b+1+1,0,none⟩ (.int .i64 1))=x:=⟨_,rfl⟩
  rw[hz]at hl2
  have HLz1:=Lib.hid hl2
  have HWz1:=Lib.hid hz
  clear hb hl0 hl1 hl2 hz
  go_wp2_with fail
  clear wx0 wxf0 wx1 wxf1 wx2 wxf2 d0 d1 d2 m0 mf0 n0 n1 n2
  rw[HWz1.out]
  refine(C1.out _ HLz1.out.bl).mono ?_
  rintro en y2 ⟨rfl,hb⟩
  have hl0:=HLz1.out.below hb
  have g1:y2.cell? ⟨b+1+1,1,none⟩=some (.string ⟨#[]⟩):=(blk_cell hl0.k9 1).trans rfl
  have gf1:=blk_frozen hl0.k9 1
  have hl1:=hl0.field 1 (.string x1) (k':=1) (x1':=x1) (x2':=0) (dv':= .slice none 0 0) (ds':=[]) (x4':=0) (x5':=0) (x6':=⟨#[]⟩) hl0.row rfl
  obtain⟨wx0,wxf0,wx1,wxf1,wx2,wxf2⟩:=wf6 hl1.k8
  have hl2:=hl1.walk p2
  obtain⟨d0,d1,d2⟩:=wf3 hl2.k8
  obtain⟨z2,hz⟩: ∃x,((((y2.setCell ⟨b+1+1,1,none⟩ (.string x1)).setCell ⟨b+1,0,none⟩ (.string s)).setCell ⟨b+1,1,none⟩ (.int .i64 p2)).setCell ⟨b+1,2,none⟩ (.slice A T.length c))=x:=⟨_,rfl⟩
  rw[hz]at hl2
  have HLz2:=Lib.hid hl2
  have HWz2:=Lib.hid hz
  clear hb hl0 hl1 hl2 hz
  go_wp2_with fail
  clear wx0 wxf0 wx1 wxf1 wx2 wxf2 d0 d1 d2 g1 gf1
  rw[HWz2.out]
  refine(C2.out _).mono ?_
  rintro en y3 ⟨rfl,hb⟩
  have hl0:=HLz2.out.below hb
  have g2:y3.cell? ⟨b+1+1,2,none⟩=some (.int .u64 0):=(blk_cell hl0.k9 2).trans rfl
  have gf2:=blk_frozen hl0.k9 2
  have hl1:=hl0.field 2 (.int .u64 x2) (k':=1) (x1':=x1) (x2':=x2) (dv':= .slice none 0 0) (ds':=[]) (x4':=0) (x5':=0) (x6':=⟨#[]⟩) hl0.row rfl
  obtain⟨wx0,wxf0,wx1,wxf1,wx2,wxf2⟩:=wf6 hl1.k8
  have hl2:=hl1.walk p3
  obtain⟨d0,d1,d2⟩:=wf3 hl2.k8
  obtain⟨z3,hz⟩: ∃x,((((y3.setCell ⟨b+1+1,2,none⟩ (.int .u64 x2)).setCell ⟨b+1,0,none⟩ (.string s)).setCell ⟨b+1,1,none⟩ (.int .i64 p3)).setCell ⟨b+1,2,none⟩ (.slice A T.length c))=x:=⟨_,rfl⟩
  rw[hz]at hl2
  have HLz3:=Lib.hid hl2
  have HWz3:=Lib.hid hz
  clear hb hl0 hl1 hl2 hz
  go_wp2_with fail
  clear wx0 wxf0 wx1 wxf1 wx2 wxf2 d0 d1 d2 g2 gf2
  rw[HWz3.out]
  refine(C3.out _).mono ?_
  rintro en y4 ⟨rfl,hb⟩
  have hl0:=HLz3.out.below hb
  have hl1:=hl0
  obtain⟨wx0,wxf0,wx1,wxf1,wx2,wxf2⟩:=wf6 hl1.k8
  have hl2:=hl1.walk p4
  obtain⟨d0,d1,d2⟩:=wf3 hl2.k8
  obtain⟨z4,hz⟩: ∃x,(((y4.setCell ⟨b+1,0,none⟩ (.string s)).setCell ⟨b+1,1,none⟩ (.int .i64 p4)).setCell ⟨b+1,2,none⟩ (.slice A T.length c))=x:=⟨_,rfl⟩
  rw[hz]at hl2
  have HLz4:=Lib.hid hl2
  have HWz4:=Lib.hid hz
  clear hb hl0 hl1 hl2 hz
  go_wp2_with fail
  clear wx0 wxf0 wx1 wxf1 wx2 wxf2 d0 d1 d2
  rw[HWz4.out]
  refine(C4.out _ HLz4.out.bl).mono ?_
  rintro en y5 ⟨dv,rfl,hR,hb⟩
  obtain⟨Ad,cd,rfl⟩:=Kd.R_slice hR
  have hl0:=HLz4.out.below hb
  have g3:y5.cell? ⟨b+1+1,3,none⟩=some (.slice none 0 0):=(blk_cell hl0.k9 3).trans rfl
  have gf3:=blk_frozen hl0.k9 3
  have hl1:=hl0.field 3 (.slice Ad ds.length cd) (k':=1) (x1':=x1) (x2':=x2) (dv':= .slice Ad ds.length cd) (ds':=ds) (x4':=0) (x5':=0) (x6':=⟨#[]⟩) (Kd.R_lower hR (by have:=blk_lt HLz4.out.k9;omega)) rfl
  obtain⟨wx0,wxf0,wx1,wxf1,wx2,wxf2⟩:=wf6 hl1.k8
  have hl2:=hl1.walk p5
  obtain⟨d0,d1,d2⟩:=wf3 hl2.k8
  obtain⟨z5,hz⟩: ∃x,((((y5.setCell ⟨b+1+1,3,none⟩ (.slice Ad ds.length cd)).setCell ⟨b+1,0,none⟩ (.string s)).setCell ⟨b+1,1,none⟩ (.int .i64 p5)).setCell ⟨b+1,2,none⟩ (.slice A T.length c))=x:=⟨_,rfl⟩
  rw[hz]at hl2
  have HLz5:=Lib.hid hl2
  have HWz5:=Lib.hid hz
  clear hb hl0 hl1 hl2 hz hR
  go_wp2_with fail
  clear wx0 wxf0 wx1 wxf1 wx2 wxf2 d0 d1 d2 g3 gf3
  rw[HWz5.out]
  refine(C5.out _).mono ?_
  rintro en y6 ⟨rfl,hb⟩
  have hl0:=HLz5.out.below hb
  have g4:y6.cell? ⟨b+1+1,4,none⟩=some (.int .u64 0):=(blk_cell hl0.k9 4).trans rfl
  have gf4:=blk_frozen hl0.k9 4
  have hl1:=hl0.field 4 (.int .u64 x4) (k':=1) (x1':=x1) (x2':=x2) (dv':= .slice Ad ds.length cd) (ds':=ds) (x4':=x4) (x5':=0) (x6':=⟨#[]⟩) hl0.row rfl
  obtain⟨wx0,wxf0,wx1,wxf1,wx2,wxf2⟩:=wf6 hl1.k8
  have hl2:=hl1.walk p6
  obtain⟨d0,d1,d2⟩:=wf3 hl2.k8
  obtain⟨z6,hz⟩: ∃x,((((y6.setCell ⟨b+1+1,4,none⟩ (.int .u64 x4)).setCell ⟨b+1,0,none⟩ (.string s)).setCell ⟨b+1,1,none⟩ (.int .i64 p6)).setCell ⟨b+1,2,none⟩ (.slice A T.length c))=x:=⟨_,rfl⟩
  rw[hz]at hl2
  have HLz6:=Lib.hid hl2
  have HWz6:=Lib.hid hz
  clear hb hl0 hl1 hl2 hz
  go_wp2_with fail
  clear wx0 wxf0 wx1 wxf1 wx2 wxf2 d0 d1 d2 g4 gf4
  rw[HWz6.out]
  refine(C6.out _).mono ?_
  rintro en y7 ⟨rfl,hb⟩
  have hl0:=HLz6.out.below hb
  have g5:y7.cell? ⟨b+1+1,5,none⟩=some (.int .u64 0):=(blk_cell hl0.k9 5).trans rfl
  have gf5:=blk_frozen hl0.k9 5
  have hl1:=hl0.field 5 (.int .u64 x5) (k':=1) (x1':=x1) (x2':=x2) (dv':= .slice Ad ds.length cd) (ds':=ds) (x4':=x4) (x5':=x5) (x6':=⟨#[]⟩) hl0.row rfl
  obtain⟨wx0,wxf0,wx1,wxf1,wx2,wxf2⟩:=wf6 hl1.k8
  have hl2:=hl1.walk p7
  obtain⟨d0,d1,d2⟩:=wf3 hl2.k8
  obtain⟨z7,hz⟩: ∃x,((((y7.setCell ⟨b+1+1,5,none⟩ (.int .u64 x5)).setCell ⟨b+1,0,none⟩ (.string s)).setCell ⟨b+1,1,none⟩ (.int .i64 p7)).setCell ⟨b+1,2,none⟩ (.slice A T.length c))=x:=⟨_,rfl⟩
  rw[hz]at hl2
  have HLz7:=Lib.hid hl2
  have HWz7:=Lib.hid hz
  clear hb hl0 hl1 hl2 hz
  go_wp2_with fail
  clear wx0 wxf0 wx1 wxf1 wx2 wxf2 d0 d1 d2 g5 gf5
  rw[HWz7.out]
  refine(C7.out _).mono ?_
  rintro en y8 ⟨rfl,hb⟩
  have hl0:=HLz7.out.below hb
  have hl1:=hl0
  obtain⟨wx0,wxf0,wx1,wxf1,wx2,wxf2⟩:=wf6 hl1.k8
  have hl2:=hl1.walk p8
  obtain⟨d0,d1,d2⟩:=wf3 hl2.k8
  obtain⟨z8,hz⟩: ∃x,(((y8.setCell ⟨b+1,0,none⟩ (.string s)).setCell ⟨b+1,1,none⟩ (.int .i64 p8)).setCell ⟨b+1,2,none⟩ (.slice A T.length c))=x:=⟨_,rfl⟩
  rw[hz]at hl2
  have HLz8:=Lib.hid hl2
  have HWz8:=Lib.hid hz
  clear hb hl0 hl1 hl2 hz
  go_wp2_with fail
  clear wx0 wxf0 wx1 wxf1 wx2 wxf2 d0 d1 d2
  rw[HWz8.out]
  refine(C8.out _ HLz8.out.bl).mono ?_
  rintro en y9 ⟨rfl,hb⟩
  have hl0:=HLz8.out.below hb
  have g6:y9.cell? ⟨b+1+1,6,none⟩=some (.string ⟨#[]⟩):=(blk_cell hl0.k9 6).trans rfl
  have gf6:=blk_frozen hl0.k9 6
  have hl1:=hl0.field 6 (.string x6) (k':=1) (x1':=x1) (x2':=x2) (dv':= .slice Ad ds.length cd) (ds':=ds) (x4':=x4) (x5':=x5) (x6':=x6) hl0.row rfl
  obtain⟨wx0,wxf0,wx1,wxf1,wx2,wxf2⟩:=wf6 hl1.k8
  have hl2:=hl1.walk p9
  obtain⟨d0,d1,d2⟩:=wf3 hl2.k8
  obtain⟨z9,hz⟩: ∃x,((((y9.setCell ⟨b+1+1,6,none⟩ (.string x6)).setCell ⟨b+1,0,none⟩ (.string s)).setCell ⟨b+1,1,none⟩ (.int .i64 p9)).setCell ⟨b+1,2,none⟩ (.slice A T.length c))=x:=⟨_,rfl⟩
  rw[hz]at hl2
  have HLz9:=Lib.hid hl2
  have HWz9:=Lib.hid hz
  clear hb hl0 hl1 hl2 hz
  go_wp2_with fail
  clear wx0 wxf0 wx1 wxf1 wx2 wxf2 d0 d1 d2 g6 gf6
  rw[HWz9.out]
  have hl9:=HLz9.out
  obtain⟨pp,hpp⟩: ∃x,p9=x:=⟨_,rfl⟩
  rw[hpp]at hl9
  have heq:=HEQ.out
  rw[hpp]at heq
  have HL9:=Lib.hid hl9
  have HPP:=Lib.hid hpp
  obtain⟨ok,hok⟩: ∃x,decide (pp=(l.length:Int))=x:=⟨_,rfl⟩
  have hok2:(pp==(l.length:Int))=ok:=by rw[←hok,Bool.eq_iff_iff];simp
  rw[hok]at heq
  have HEQ2:=Lib.hid heq
  clear heq
  have HOK:=Lib.hid (And.intro hok hok2)
  have kT1:=And.intro hl9.k8 (And.intro hl9.k9 (Kd.R_mono (ok':=fun k=>k≠b) (Kd.R_bound hl9.row) (fun k hk=>by have:=hk.2.1;omega)))
  have kT3:=hl9.k6
  have hsz:=hl9.bl.size
  have hb3w:=HBB.out
  clear hl9 hpp hok hok2
  refine region_one (n:=8) (base:=w.heap.size) (w0:=w) (b:=b) (jw:=6) (byList [isV (.agg #[.int .i64 1, .string x1, .int .u64 x2, .slice Ad ds.length cd, .int .u64 x4, .int .u64 x5, .string x6]),isV (.pointer (some ⟨b+1,1,none⟩)),isV (.int .i64 pp),isV (.string s),isV (.int .i64 (l.length:Int)),isV (.bool ok),(fun _ _=>True),isV (.bool ok)]) (fun W=>W.heap[b+1]? =some (.cells #[.string s, .int .i64 pp, .slice A T.length c] 167 (0,0))∧W.heap[b+1+1]? =some (.cells #[.int .i64 1, .string x1, .int .u64 x2, .slice Ad ds.length cd, .int .u64 x4, .int .u64 x5, .string x6] 62 (0,0))∧Kd.R k109 109 W (b+3) (fun k=>k≠b) (.slice Ad ds.length cd) (ds)) (fun W=>W.heap[b]? =some (.cells #[.int .i64 0, .string ⟨#[]⟩, .int .u64 0, .slice none 0 0, .int .u64 0, .int .u64 0, .string ⟨#[]⟩] 62 (0,0))) (fun W=>W.heap[b]? =some (.cells #[.int .i64 1, .string x1, .int .u64 x2, .slice Ad ds.length cd, .int .u64 x4, .int .u64 x5, .string x6] 62 (0,0))) (by kernel_rfl) rfl (by omega) (byList_any ?_) (by kernel_rfl) (by kernel_rfl) (by omega) (fun W W' row hrow h hg=>⟨blk_grown' h.1 hg (by rcases hrow with rfl|rfl<;>simp<;>omega),blk_grown' h.2.1 hg (by rcases hrow with rfl|rfl<;>simp<;>omega),Kd.R_grown h.2.2 hg (fun k hk=>by rcases hrow with rfl|rfl<;>simp;omega)⟩) (fun W W' h hg=>blk_below h (below_none hg)) (fun W W' h hg=>blk_below h (below_none hg)) HL9.out.bl (Nat.le_refl _) kT1 kT3 (show AllLt 8 _ from ?_) ?_
  ·intro p hp
   simp only[List.mem_cons,List.not_mem_nil,or_false]at hp
   rcases hp with rfl|rfl|rfl|rfl|rfl|rfl|rfl|rfl<;>exact fun _ _ _ h=>h
  ·refine allLt_succ (allLt_succ (allLt_succ (allLt_succ (allLt_succ (allLt_succ (allLt_succ (allLt_succ (allLt_zero _) ?_) ?_) ?_) ?_) ?_) ?_) ?_) ?_
   ·refine StepOkO.run (get_lit rfl) rfl (by omega) fun a W hS hB hd hR=> ?_
    have e9:=hS.get (t:=9) rfl rfl
    refine wp_value (c:= .agg #[.int .i64 1, .string x1, .int .u64 x2, .slice Ad ds.length cd, .int .u64 x4, .int .u64 x5, .string x6]) ?_ rfl
    obtain⟨c0,c1,c2,c3,c4,c5,c6⟩:=facts7 hR.2.1
    go_simp
   ·refine StepOkO.run (get_lit rfl) rfl (by omega) fun a W hS hB hd hR=> ?_
    have e8:=hS.get (t:=8) rfl rfl
    refine wp_value (c:= .pointer (some ⟨b+1,1,none⟩)) ?_ rfl
    go_simp
   ·refine StepOkO.run (get_lit rfl) rfl (by omega) fun a W hS hB hd hR=> ?_
    have e96:=(hd 1 rfl).bool rfl rfl rfl
    refine wp_value (c:= .int .i64 pp) ?_ rfl
    have c0:W.cell? ⟨b+1,0,none⟩=some (.string s):=(blk_cell hR.1 0).trans rfl
    have c1:W.cell? ⟨b+1,1,none⟩=some (.int .i64 pp):=(blk_cell hR.1 1).trans rfl
    have c2:W.cell? ⟨b+1,2,none⟩=some (.slice A T.length c):=(blk_cell hR.1 2).trans rfl
    go_simp
   ·refine StepOkO.run (get_lit rfl) rfl (by omega) fun a W hS hB hd hR=> ?_
    have e2:=hS.get (t:=2) rfl rfl
    refine wp_value (c:= .string s) ?_ rfl
    go_simp
   ·refine StepOkO.run (get_lit rfl) rfl (by omega) fun a W hS hB hd hR=> ?_
    have e98:=(hd 3 rfl).bool rfl rfl rfl
    refine wp_value (c:= .int .i64 (l.length:Int)) ?_ rfl
    have hsz9:=hss
    go_simp
   ·refine StepOkO.run (get_lit rfl) rfl (by omega) fun a W hS hB hd hR=> ?_
    have e97:=(hd 2 rfl).bool rfl rfl rfl
    have e99:=(hd 4 rfl).bool rfl rfl rfl
    refine wp_value (c:= .bool ok) ?_ rfl
    obtain⟨ho1,ho2⟩:=HOK.out
    go_simp
   ·refine StepOkO.write (get_lit rfl) rfl rfl rfl fun a W hS hB hd hR hP=> ?_
    have e6:=hS.get (t:=6) rfl rfl
    have e95:=(hd 0 rfl).bool rfl rfl rfl
    obtain⟨z0,zf0,z1,zf1,z2,zf2,z3,zf3,z4,zf4,z5,zf5,z6,zf6⟩:=facts7f hP
    refine⟨_, ?_,grown_put (grown_put (grown_put (grown_put (grown_put (grown_put (grown_put (World.grownBy.refl _ _) (.int .i64 1)) (.string x1)) (.int .u64 x2)) (.slice Ad ds.length cd)) (.int .u64 x4)) (.int .u64 x5)) (.string x6),blk_put7 hP _ _ _ _ _ _ _⟩
    go_simp
   ·refine StepOkO.run (get_lit rfl) rfl (by omega) fun a W hS hB hd hR=> ?_
    have e100:=(hd 5 rfl).bool rfl rfl rfl
    refine wp_value (c:= .bool ok) ?_ rfl
    go_simp
  ·intro a W hS hB hh hRD hFD
   have e7:a.tmps[7]? =some (.bool ok):=(hh 7 (by omega)).bool rfl rfl rfl
   have HBR:=Lib.hid hB
   obtain⟨zz,hlit,hzz⟩:=same_litz hS
   clear hh hS hB
   simp only[List.filterMap_cons,List.filterMap_nil,List.foldl_cons,List.foldl_nil,List.setIfInBounds_toArray,List.set_cons_zero,List.set_cons_succ]at hlit
   rw[hzz 7 _ e7]at hlit
   clear e7
   clear hzz;subst hlit
   go_wp2_with fail
   refine bodyPost_ret (results_ct rfl _ _ b 62 #[_,_,_,_,_,_,_] (0,0) _ rfl hFD HU.out rfl (by kernel_rfl)) rfl ?_
   rw[←HEQ2.out]
   exact⟨_,rfl,Kd.R_mono (Kd.R_lower hRD.2.2 (by omega)) (fun _ _=>trivial),HBR.out⟩
 ·have hmd:decide (0<m)=false:=decide_eq_false hm
  rw[if_neg hm]at hF
  try dsimp only at hF
  have hp1:decide (pl a1 0<0)=false:=by unfold pl;rw[if_pos rfl];exact decide_eq_false (by omega)
  have hn0:=HN0.out
  generalize pl a1 0=p1 at hF hn0 c1 c2 c3 c4 c5 c6 c7 hp1
  generalize pl a2 e2=p2 at hF hn0 c1 c2 c3 c4 c5 c6 c7
  generalize pl a3 e3=p3 at hF hn0 c1 c2 c3 c4 c5 c6 c7
  generalize pl a4 e4=p4 at hF hn0 c1 c2 c3 c4 c5 c6 c7
  generalize pl a5 e5=p5 at hF hn0 c1 c2 c3 c4 c5 c6 c7
  generalize pl a6 e6=p6 at hF hn0 c1 c2 c3 c4 c5 c6 c7
  generalize pl a7 e7=p7 at hF hn0 c1 c2 c3 c4 c5 c6 c7
  generalize pl a8 e8=p8 at hF hn0 c1 c2 c3 c4 c5 c6 c7
  have HEQ:=Lib.hid hF
  have C1:=Lib.hid c1
  have C2:=Lib.hid c2
  have C3:=Lib.hid c3
  have C4:=Lib.hid c4
  have C5:=Lib.hid c5
  have C6:=Lib.hid c6
  have C7:=Lib.hid c7
  replace HN0:=Lib.hid hn0
  clear hF hN1 hst0 hn0 c1 c2 c3 c4 c5 c6 c7 s1 s2 s3 s2' s3' s5 s6 s7
  have hkw:IntKind.i64.wrap 1=1:=by rw[IntKind.wrap_i64];omega
  go_enter Try.func76,Try.ntmps76
  go_wp2_with fail
  rw[HW1.out,HBB.out]
  refine(HN0.out w1).mono ?_
  rintro en y10 ⟨rfl,hb⟩
  have hl0:=HL1.out.below hb
  have hl1:=hl0
  obtain⟨wx0,wxf0,wx1,wxf1,wx2,wxf2⟩:=wf6 hl1.k8
  have hl2:=hl1.walk p1
  obtain⟨d0,d1,d2⟩:=wf3 hl2.k8
  have m0:(((y10.setCell ⟨b+1,0,none⟩ (.string s)).setCell ⟨b+1,1,none⟩ (.int .i64 p1)).setCell ⟨b+1,2,none⟩ (.slice A T.length c)).cell? ⟨b+1+1,0,none⟩=some (.int .i64 0):=(blk_cell hl2.k9 0).trans rfl
  have mf0:=blk_frozen hl2.k9 0
  have hl2:=hl2.field 0 (.int .i64 1) (k':=1) (x1':=⟨#[]⟩) (x2':=0) (dv':= .slice none 0 0) (ds':=[]) (x4':=0) (x5':=0) (x6':=⟨#[]⟩) hl2.row rfl
  obtain⟨n0,n1,n2⟩:=wf3 hl2.k8
  obtain⟨z10,hz⟩: ∃x,((((y10.setCell ⟨b+1,0,none⟩ (.string s)).setCell ⟨b+1,1,none⟩ (.int .i64 p1)).setCell ⟨b+1,2,none⟩ (.slice A T.length c)).setCell ⟨b+1+1,0,none⟩ (.int .i64 1))=x:=⟨_,rfl⟩
  rw[hz]at hl2
  have HLz10:=Lib.hid hl2
  have HWz10:=Lib.hid hz
  clear hb hl0 hl1 hl2 hz
  go_wp2_with fail
  clear wx0 wxf0 wx1 wxf1 wx2 wxf2 d0 d1 d2 m0 mf0 n0 n1 n2
  rw[HWz10.out]
  refine(C1.out _ HLz10.out.bl).mono ?_
  rintro en y11 ⟨rfl,hb⟩
  have hl0:=HLz10.out.below hb
  have g1:y11.cell? ⟨b+1+1,1,none⟩=some (.string ⟨#[]⟩):=(blk_cell hl0.k9 1).trans rfl
  have gf1:=blk_frozen hl0.k9 1
  have hl1:=hl0.field 1 (.string x1) (k':=1) (x1':=x1) (x2':=0) (dv':= .slice none 0 0) (ds':=[]) (x4':=0) (x5':=0) (x6':=⟨#[]⟩) hl0.row rfl
  obtain⟨wx0,wxf0,wx1,wxf1,wx2,wxf2⟩:=wf6 hl1.k8
  have hl2:=hl1.walk p2
  obtain⟨d0,d1,d2⟩:=wf3 hl2.k8
  obtain⟨z11,hz⟩: ∃x,((((y11.setCell ⟨b+1+1,1,none⟩ (.string x1)).setCell ⟨b+1,0,none⟩ (.string s)).setCell ⟨b+1,1,none⟩ (.int .i64 p2)).setCell ⟨b+1,2,none⟩ (.slice A T.length c))=x:=⟨_,rfl⟩
  rw[hz]at hl2
  have HLz11:=Lib.hid hl2
  have HWz11:=Lib.hid hz
  clear hb hl0 hl1 hl2 hz
  go_wp2_with fail
  clear wx0 wxf0 wx1 wxf1 wx2 wxf2 d0 d1 d2 g1 gf1
  rw[HWz11.out]
  refine(C2.out _).mono ?_
  rintro en y12 ⟨rfl,hb⟩
  have hl0:=HLz11.out.below hb
  have g2:y12.cell? ⟨b+1+1,2,none⟩=some (.int .u64 0):=(blk_cell hl0.k9 2).trans rfl
  have gf2:=blk_frozen hl0.k9 2
  have hl1:=hl0.field 2 (.int .u64 x2) (k':=1) (x1':=x1) (x2':=x2) (dv':= .slice none 0 0) (ds':=[]) (x4':=0) (x5':=0) (x6':=⟨#[]⟩) hl0.row rfl
  obtain⟨wx0,wxf0,wx1,wxf1,wx2,wxf2⟩:=wf6 hl1.k8
  have hl2:=hl1.walk p3
  obtain⟨d0,d1,d2⟩:=wf3 hl2.k8
  obtain⟨z12,hz⟩: ∃x,((((y12.setCell ⟨b+1+1,2,none⟩ (.int .u64 x2)).setCell ⟨b+1,0,none⟩ (.string s)).setCell ⟨b+1,1,none⟩ (.int .i64 p3)).setCell ⟨b+1,2,none⟩ (.slice A T.length c))=x:=⟨_,rfl⟩
  rw[hz]at hl2
  have HLz12:=Lib.hid hl2
  have HWz12:=Lib.hid hz
  clear hb hl0 hl1 hl2 hz
  go_wp2_with fail
  clear wx0 wxf0 wx1 wxf1 wx2 wxf2 d0 d1 d2 g2 gf2
  rw[HWz12.out]
  refine(C3.out _).mono ?_
  rintro en y13 ⟨rfl,hb⟩
  have hl0:=HLz12.out.below hb
  have hl1:=hl0
  obtain⟨wx0,wxf0,wx1,wxf1,wx2,wxf2⟩:=wf6 hl1.k8
  have hl2:=hl1.walk p4
  obtain⟨d0,d1,d2⟩:=wf3 hl2.k8
  obtain⟨z13,hz⟩: ∃x,(((y13.setCell ⟨b+1,0,none⟩ (.string s)).setCell ⟨b+1,1,none⟩ (.int .i64 p4)).setCell ⟨b+1,2,none⟩ (.slice A T.length c))=x:=⟨_,rfl⟩
  rw[hz]at hl2
  have HLz13:=Lib.hid hl2
  have HWz13:=Lib.hid hz
  clear hb hl0 hl1 hl2 hz
  go_wp2_with fail
  clear wx0 wxf0 wx1 wxf1 wx2 wxf2 d0 d1 d2
  rw[HWz13.out]
  refine(C4.out _ HLz13.out.bl).mono ?_
  rintro en y14 ⟨dv,rfl,hR,hb⟩
  obtain⟨Ad,cd,rfl⟩:=Kd.R_slice hR
  have hl0:=HLz13.out.below hb
  have g3:y14.cell? ⟨b+1+1,3,none⟩=some (.slice none 0 0):=(blk_cell hl0.k9 3).trans rfl
  have gf3:=blk_frozen hl0.k9 3
  have hl1:=hl0.field 3 (.slice Ad ds.length cd) (k':=1) (x1':=x1) (x2':=x2) (dv':= .slice Ad ds.length cd) (ds':=ds) (x4':=0) (x5':=0) (x6':=⟨#[]⟩) (Kd.R_lower hR (by have:=blk_lt HLz13.out.k9;omega)) rfl
  obtain⟨wx0,wxf0,wx1,wxf1,wx2,wxf2⟩:=wf6 hl1.k8
  have hl2:=hl1.walk p5
  obtain⟨d0,d1,d2⟩:=wf3 hl2.k8
  obtain⟨z14,hz⟩: ∃x,((((y14.setCell ⟨b+1+1,3,none⟩ (.slice Ad ds.length cd)).setCell ⟨b+1,0,none⟩ (.string s)).setCell ⟨b+1,1,none⟩ (.int .i64 p5)).setCell ⟨b+1,2,none⟩ (.slice A T.length c))=x:=⟨_,rfl⟩
  rw[hz]at hl2
  have HLz14:=Lib.hid hl2
  have HWz14:=Lib.hid hz
  clear hb hl0 hl1 hl2 hz hR
  go_wp2_with fail
  clear wx0 wxf0 wx1 wxf1 wx2 wxf2 d0 d1 d2 g3 gf3
  rw[HWz14.out]
  refine(C5.out _).mono ?_
  rintro en y15 ⟨rfl,hb⟩
  have hl0:=HLz14.out.below hb
  have g4:y15.cell? ⟨b+1+1,4,none⟩=some (.int .u64 0):=(blk_cell hl0.k9 4).trans rfl
  have gf4:=blk_frozen hl0.k9 4
  have hl1:=hl0.field 4 (.int .u64 x4) (k':=1) (x1':=x1) (x2':=x2) (dv':= .slice Ad ds.length cd) (ds':=ds) (x4':=x4) (x5':=0) (x6':=⟨#[]⟩) hl0.row rfl
  obtain⟨wx0,wxf0,wx1,wxf1,wx2,wxf2⟩:=wf6 hl1.k8
  have hl2:=hl1.walk p6
  obtain⟨d0,d1,d2⟩:=wf3 hl2.k8
  obtain⟨z15,hz⟩: ∃x,((((y15.setCell ⟨b+1+1,4,none⟩ (.int .u64 x4)).setCell ⟨b+1,0,none⟩ (.string s)).setCell ⟨b+1,1,none⟩ (.int .i64 p6)).setCell ⟨b+1,2,none⟩ (.slice A T.length c))=x:=⟨_,rfl⟩
  rw[hz]at hl2
  have HLz15:=Lib.hid hl2
  have HWz15:=Lib.hid hz
  clear hb hl0 hl1 hl2 hz
  go_wp2_with fail
  clear wx0 wxf0 wx1 wxf1 wx2 wxf2 d0 d1 d2 g4 gf4
  rw[HWz15.out]
  refine(C6.out _).mono ?_
  rintro en y16 ⟨rfl,hb⟩
  have hl0:=HLz15.out.below hb
  have g5:y16.cell? ⟨b+1+1,5,none⟩=some (.int .u64 0):=(blk_cell hl0.k9 5).trans rfl
  have gf5:=blk_frozen hl0.k9 5
  have hl1:=hl0.field 5 (.int .u64 x5) (k':=1) (x1':=x1) (x2':=x2) (dv':= .slice Ad ds.length cd) (ds':=ds) (x4':=x4) (x5':=x5) (x6':=⟨#[]⟩) hl0.row rfl
  obtain⟨wx0,wxf0,wx1,wxf1,wx2,wxf2⟩:=wf6 hl1.k8
  have hl2:=hl1.walk p7
  obtain⟨d0,d1,d2⟩:=wf3 hl2.k8
  obtain⟨z16,hz⟩: ∃x,((((y16.setCell ⟨b+1+1,5,none⟩ (.int .u64 x5)).setCell ⟨b+1,0,none⟩ (.string s)).setCell ⟨b+1,1,none⟩ (.int .i64 p7)).setCell ⟨b+1,2,none⟩ (.slice A T.length c))=x:=⟨_,rfl⟩
  rw[hz]at hl2
  have HLz16:=Lib.hid hl2
  have HWz16:=Lib.hid hz
  clear hb hl0 hl1 hl2 hz
  go_wp2_with fail
  clear wx0 wxf0 wx1 wxf1 wx2 wxf2 d0 d1 d2 g5 gf5
  rw[HWz16.out]
  refine(C7.out _).mono ?_
  rintro en y17 ⟨rfl,hb⟩
  have hl0:=HLz16.out.below hb
  have hl1:=hl0
  obtain⟨wx0,wxf0,wx1,wxf1,wx2,wxf2⟩:=wf6 hl1.k8
  have hl2:=hl1.walk p8
  obtain⟨d0,d1,d2⟩:=wf3 hl2.k8
  obtain⟨z17,hz⟩: ∃x,(((y17.setCell ⟨b+1,0,none⟩ (.string s)).setCell ⟨b+1,1,none⟩ (.int .i64 p8)).setCell ⟨b+1,2,none⟩ (.slice A T.length c))=x:=⟨_,rfl⟩
  rw[hz]at hl2
  have HLz17:=Lib.hid hl2
  have HWz17:=Lib.hid hz
  clear hb hl0 hl1 hl2 hz
  go_wp2_with fail
  clear wx0 wxf0 wx1 wxf1 wx2 wxf2 d0 d1 d2
  rw[HWz17.out]
  have hl9:=HLz17.out
  obtain⟨pp,hpp⟩: ∃x,p8=x:=⟨_,rfl⟩
  rw[hpp]at hl9
  have heq:=HEQ.out
  rw[hpp]at heq
  have HL9:=Lib.hid hl9
  have HPP:=Lib.hid hpp
  obtain⟨ok,hok⟩: ∃x,decide (pp=(l.length:Int))=x:=⟨_,rfl⟩
  have hok2:(pp==(l.length:Int))=ok:=by rw[←hok,Bool.eq_iff_iff];simp
  rw[hok]at heq
  have HEQ2:=Lib.hid heq
  clear heq
  have HOK:=Lib.hid (And.intro hok hok2)
  have kT1:=And.intro hl9.k8 (And.intro hl9.k9 (Kd.R_mono (ok':=fun k=>k≠b) (Kd.R_bound hl9.row) (fun k hk=>by have:=hk.2.1;omega)))
  have kT3:=hl9.k6
  have hsz:=hl9.bl.size
  have hb3w:=HBB.out
  clear hl9 hpp hok hok2
  refine region_one (n:=8) (base:=w.heap.size) (w0:=w) (b:=b) (jw:=6) (byList [isV (.agg #[.int .i64 1, .string x1, .int .u64 x2, .slice Ad ds.length cd, .int .u64 x4, .int .u64 x5, .string ⟨#[]⟩]),isV (.pointer (some ⟨b+1,1,none⟩)),isV (.int .i64 pp),isV (.string s),isV (.int .i64 (l.length:Int)),isV (.bool ok),(fun _ _=>True),isV (.bool ok)]) (fun W=>W.heap[b+1]? =some (.cells #[.string s, .int .i64 pp, .slice A T.length c] 167 (0,0))∧W.heap[b+1+1]? =some (.cells #[.int .i64 1, .string x1, .int .u64 x2, .slice Ad ds.length cd, .int .u64 x4, .int .u64 x5, .string ⟨#[]⟩] 62 (0,0))∧Kd.R k109 109 W (b+3) (fun k=>k≠b) (.slice Ad ds.length cd) (ds)) (fun W=>W.heap[b]? =some (.cells #[.int .i64 0, .string ⟨#[]⟩, .int .u64 0, .slice none 0 0, .int .u64 0, .int .u64 0, .string ⟨#[]⟩] 62 (0,0))) (fun W=>W.heap[b]? =some (.cells #[.int .i64 1, .string x1, .int .u64 x2, .slice Ad ds.length cd, .int .u64 x4, .int .u64 x5, .string ⟨#[]⟩] 62 (0,0))) (by kernel_rfl) rfl (by omega) (byList_any ?_) (by kernel_rfl) (by kernel_rfl) (by omega) (fun W W' row hrow h hg=>⟨blk_grown' h.1 hg (by rcases hrow with rfl|rfl<;>simp<;>omega),blk_grown' h.2.1 hg (by rcases hrow with rfl|rfl<;>simp<;>omega),Kd.R_grown h.2.2 hg (fun k hk=>by rcases hrow with rfl|rfl<;>simp;omega)⟩) (fun W W' h hg=>blk_below h (below_none hg)) (fun W W' h hg=>blk_below h (below_none hg)) HL9.out.bl (Nat.le_refl _) kT1 kT3 (show AllLt 8 _ from ?_) ?_
  ·intro p hp
   simp only[List.mem_cons,List.not_mem_nil,or_false]at hp
   rcases hp with rfl|rfl|rfl|rfl|rfl|rfl|rfl|rfl<;>exact fun _ _ _ h=>h
  ·refine allLt_succ (allLt_succ (allLt_succ (allLt_succ (allLt_succ (allLt_succ (allLt_succ (allLt_succ (allLt_zero _) ?_) ?_) ?_) ?_) ?_) ?_) ?_) ?_
   ·refine StepOkO.run (get_lit rfl) rfl (by omega) fun a W hS hB hd hR=> ?_
    have e9:=hS.get (t:=9) rfl rfl
    refine wp_value (c:= .agg #[.int .i64 1, .string x1, .int .u64 x2, .slice Ad ds.length cd, .int .u64 x4, .int .u64 x5, .string ⟨#[]⟩]) ?_ rfl
    obtain⟨c0,c1,c2,c3,c4,c5,c6⟩:=facts7 hR.2.1
    go_simp
   ·refine StepOkO.run (get_lit rfl) rfl (by omega) fun a W hS hB hd hR=> ?_
    have e8:=hS.get (t:=8) rfl rfl
    refine wp_value (c:= .pointer (some ⟨b+1,1,none⟩)) ?_ rfl
    go_simp
   ·refine StepOkO.run (get_lit rfl) rfl (by omega) fun a W hS hB hd hR=> ?_
    have e96:=(hd 1 rfl).bool rfl rfl rfl
    refine wp_value (c:= .int .i64 pp) ?_ rfl
    have c0:W.cell? ⟨b+1,0,none⟩=some (.string s):=(blk_cell hR.1 0).trans rfl
    have c1:W.cell? ⟨b+1,1,none⟩=some (.int .i64 pp):=(blk_cell hR.1 1).trans rfl
    have c2:W.cell? ⟨b+1,2,none⟩=some (.slice A T.length c):=(blk_cell hR.1 2).trans rfl
    go_simp
   ·refine StepOkO.run (get_lit rfl) rfl (by omega) fun a W hS hB hd hR=> ?_
    have e2:=hS.get (t:=2) rfl rfl
    refine wp_value (c:= .string s) ?_ rfl
    go_simp
   ·refine StepOkO.run (get_lit rfl) rfl (by omega) fun a W hS hB hd hR=> ?_
    have e98:=(hd 3 rfl).bool rfl rfl rfl
    refine wp_value (c:= .int .i64 (l.length:Int)) ?_ rfl
    have hsz9:=hss
    go_simp
   ·refine StepOkO.run (get_lit rfl) rfl (by omega) fun a W hS hB hd hR=> ?_
    have e97:=(hd 2 rfl).bool rfl rfl rfl
    have e99:=(hd 4 rfl).bool rfl rfl rfl
    refine wp_value (c:= .bool ok) ?_ rfl
    obtain⟨ho1,ho2⟩:=HOK.out
    go_simp
   ·refine StepOkO.write (get_lit rfl) rfl rfl rfl fun a W hS hB hd hR hP=> ?_
    have e6:=hS.get (t:=6) rfl rfl
    have e95:=(hd 0 rfl).bool rfl rfl rfl
    obtain⟨z0,zf0,z1,zf1,z2,zf2,z3,zf3,z4,zf4,z5,zf5,z6,zf6⟩:=facts7f hP
    refine⟨_, ?_,grown_put (grown_put (grown_put (grown_put (grown_put (grown_put (grown_put (World.grownBy.refl _ _) (.int .i64 1)) (.string x1)) (.int .u64 x2)) (.slice Ad ds.length cd)) (.int .u64 x4)) (.int .u64 x5)) (.string ⟨#[]⟩),blk_put7 hP _ _ _ _ _ _ _⟩
    go_simp
   ·refine StepOkO.run (get_lit rfl) rfl (by omega) fun a W hS hB hd hR=> ?_
    have e100:=(hd 5 rfl).bool rfl rfl rfl
    refine wp_value (c:= .bool ok) ?_ rfl
    go_simp
  ·intro a W hS hB hh hRD hFD
   have e7:a.tmps[7]? =some (.bool ok):=(hh 7 (by omega)).bool rfl rfl rfl
   have HBR:=Lib.hid hB
   obtain⟨zz,hlit,hzz⟩:=same_litz hS
   clear hh hS hB
   simp only[List.filterMap_cons,List.filterMap_nil,List.foldl_cons,List.foldl_nil,List.setIfInBounds_toArray,List.set_cons_zero,List.set_cons_succ]at hlit
   rw[hzz 7 _ e7]at hlit
   clear e7
   clear hzz;subst hlit
   go_wp2_with fail
   refine bodyPost_ret (results_ct rfl _ _ b 62 #[_,_,_,_,_,_,_] (0,0) _ rfl hFD HU.out rfl (by kernel_rfl)) rfl ?_
   rw[←HEQ2.out]
   exact⟨_,rfl,Kd.R_mono (Kd.R_lower hRD.2.2 (by omega)) (fun _ _=>trivial),HBR.out⟩
end Go.Proofs.Ytmeocdkiecknkaa
namespace Go.Proofs.Ytmeocdkiecknkaa
open Go.RowKit Go.Proofs.YtmeocdkiecknkaaW.PrintWords Go.Proofs.Ytmeocdkiecknkaa.GRR
set_option maxRecDepth 100000 in
theorem sget_ver {W:World} {S:Nat→Prop} {t:Nat} {T:List ByteArray} (h:Tab W S t T) (v:Int) (A:Option Addr) (c:Nat) (ps:List (List Int)) (at0:Int) (hv: ¬(1≤v∧v≤3)):
  Calls Try.prog 37 #[.int .i64 v, .pointer (some ⟨t,0,none⟩), .slice A ps.length c, .int .i64 at0] W (GetPost W S t (getF v T ps at0)):=by
 rw[getF_ver T ps at0 hv]
 obtain⟨W1,hW1⟩: ∃w,W.alloc (.cells #[.int .i64 0, .string ⟨#[]⟩, .int .u64 0, .slice none 0 0, .int .u64 0, .int .u64 0, .string ⟨#[]⟩] 62)=w:=⟨_,rfl⟩
 have hb1:Below W.heap.size W W1:=by rw[←hW1];exact(Below.refl _ _).alloc (Nat.le_refl _) _
 have hk1:W1.heap[W.heap.size]? =some (.cells #[.int .i64 0, .string ⟨#[]⟩, .int .u64 0, .slice none 0 0, .int .u64 0, .int .u64 0, .string ⟨#[]⟩] 62 (0,0)):=by rw[←hW1];exact heap_new _ _
 have hs1:W1.heap.size=W.heap.size+1:=by rw[←hW1,heap_size_alloc]
 obtain⟨b8,hb8⟩: ∃b,W.heap.size=b:=⟨_,rfl⟩
 rw[hb8]at hk1 hs1
 have HH:=Lib.hid h
 have HB1:=Lib.hid hb1
 have HK1:=Lib.hid hk1
 have HW1:=Lib.hid hW1
 have HB8:=Lib.hid hb8
 have HS1:=Lib.hid hs1
 have HU:=Lib.hid Try.underlying62
 have HKN:=Lib.hid (known9_any v W1)
 rw[show decide (1≤v∧v≤3)=false from decide_eq_false hv]at HKN
 clear h hb1 hk1 hs1 hb8 hW1 hv
 go_enter Try.func37,Try.ntmps37
 go_wp2_with fail
 rw[HW1.out,HB8.out]
 refine HKN.out.mono ?_
 rintro e w9 ⟨rfl,rfl⟩
 obtain⟨c0,cf0,c1,cf1,c2,cf2,c3,cf3,c4,cf4,c5,cf5,c6,cf6⟩:=facts7f HK1.out
 go_wp2_with fail
 refine bodyPost_ret (results_ctt rfl _ _ b8 62 #[_,_,_,_,_,_,_] (0,0) _ rfl (blk_put7 HK1.out _ _ _ _ _ _ _) HU.out rfl (by kernel_rfl)) rfl ?_
 have HBE:=below_put7 (g:=b8) HB1.out (by have:=HB8.out;omega) (.int .i64 0) (.string ⟨#[]⟩) (.int .u64 0) (.slice none 0 0) (.int .u64 0) (.int .u64 0) (.string ⟨#[]⟩)
 exact GetPost.early HH.out HBE 11
set_option maxRecDepth 100000 in
theorem sget_arg1 {W:World} {S:Nat→Prop} {t:Nat} {T:List ByteArray} (h:Tab W S t T) (v:Int) (A:Option Addr) (c:Nat) (ps:List (List Int)) (at0:Int) (hv:1≤v∧v≤3) (h0:at0<0):
  Calls Try.prog 37 #[.int .i64 v, .pointer (some ⟨t,0,none⟩), .slice A ps.length c, .int .i64 at0] W (GetPost W S t (getF v T ps at0)):=by
 rw[getF_arg T ps at0 hv (by omega)]
 obtain⟨W1,hW1⟩: ∃w,W.alloc (.cells #[.int .i64 0, .string ⟨#[]⟩, .int .u64 0, .slice none 0 0, .int .u64 0, .int .u64 0, .string ⟨#[]⟩] 62)=w:=⟨_,rfl⟩
 have hb1:Below W.heap.size W W1:=by rw[←hW1];exact(Below.refl _ _).alloc (Nat.le_refl _) _
 have hk1:W1.heap[W.heap.size]? =some (.cells #[.int .i64 0, .string ⟨#[]⟩, .int .u64 0, .slice none 0 0, .int .u64 0, .int .u64 0, .string ⟨#[]⟩] 62 (0,0)):=by rw[←hW1];exact heap_new _ _
 have hs1:W1.heap.size=W.heap.size+1:=by rw[←hW1,heap_size_alloc]
 obtain⟨b8,hb8⟩: ∃b,W.heap.size=b:=⟨_,rfl⟩
 rw[hb8]at hk1 hs1
 have HH:=Lib.hid h
 have HB1:=Lib.hid hb1
 have HK1:=Lib.hid hk1
 have HW1:=Lib.hid hW1
 have HB8:=Lib.hid hb8
 have HS1:=Lib.hid hs1
 have HU:=Lib.hid Try.underlying62
 have HKN:=Lib.hid (known9_any v W1)
 rw[show decide (1≤v∧v≤3)=true from decide_eq_true hv]at HKN
 have d0:decide (at0<0)=true:=decide_eq_true (by omega)
 clear h hb1 hk1 hs1 hb8 hW1 hv h0
 go_enter Try.func37,Try.ntmps37
 go_wp2_with fail
 rw[HW1.out,HB8.out]
 refine HKN.out.mono ?_
 rintro e w9 ⟨rfl,rfl⟩
 obtain⟨c0,cf0,c1,cf1,c2,cf2,c3,cf3,c4,cf4,c5,cf5,c6,cf6⟩:=facts7f HK1.out
 go_wp2_with fail
 refine bodyPost_ret (results_ctt rfl _ _ b8 62 #[_,_,_,_,_,_,_] (0,0) _ rfl (blk_put7 HK1.out _ _ _ _ _ _ _) HU.out rfl (by kernel_rfl)) rfl ?_
 have HBE:=below_put7 (g:=b8) HB1.out (by have:=HB8.out;omega) (.int .i64 0) (.string ⟨#[]⟩) (.int .u64 0) (.slice none 0 0) (.int .u64 0) (.int .u64 0) (.string ⟨#[]⟩)
 exact GetPost.early HH.out HBE 1
set_option maxRecDepth 100000 in
theorem sget_arg2 {W:World} {S:Nat→Prop} {t:Nat} {T:List ByteArray} (h:Tab W S t T) (v:Int) (A:Option Addr) (c:Nat) (ps:List (List Int)) (at0:Int) (hv:1≤v∧v≤3) (h0:0≤at0∧(ps.length:Int)<at0):
  Calls Try.prog 37 #[.int .i64 v, .pointer (some ⟨t,0,none⟩), .slice A ps.length c, .int .i64 at0] W (GetPost W S t (getF v T ps at0)):=by
 rw[getF_arg T ps at0 hv (by omega)]
 obtain⟨W1,hW1⟩: ∃w,W.alloc (.cells #[.int .i64 0, .string ⟨#[]⟩, .int .u64 0, .slice none 0 0, .int .u64 0, .int .u64 0, .string ⟨#[]⟩] 62)=w:=⟨_,rfl⟩
 have hb1:Below W.heap.size W W1:=by rw[←hW1];exact(Below.refl _ _).alloc (Nat.le_refl _) _
 have hk1:W1.heap[W.heap.size]? =some (.cells #[.int .i64 0, .string ⟨#[]⟩, .int .u64 0, .slice none 0 0, .int .u64 0, .int .u64 0, .string ⟨#[]⟩] 62 (0,0)):=by rw[←hW1];exact heap_new _ _
 have hs1:W1.heap.size=W.heap.size+1:=by rw[←hW1,heap_size_alloc]
 obtain⟨b8,hb8⟩: ∃b,W.heap.size=b:=⟨_,rfl⟩
 rw[hb8]at hk1 hs1
 have HH:=Lib.hid h
 have HB1:=Lib.hid hb1
 have HK1:=Lib.hid hk1
 have HW1:=Lib.hid hW1
 have HB8:=Lib.hid hb8
 have HS1:=Lib.hid hs1
 have HU:=Lib.hid Try.underlying62
 have HKN:=Lib.hid (known9_any v W1)
 rw[show decide (1≤v∧v≤3)=true from decide_eq_true hv]at HKN
 have d0:decide (at0<0)=false:=decide_eq_false (by omega)
 have d1:decide ((ps.length:Int)<at0)=true:=decide_eq_true (by omega)
 clear h hb1 hk1 hs1 hb8 hW1 hv h0
 go_enter Try.func37,Try.ntmps37
 go_wp2_with fail
 rw[HW1.out,HB8.out]
 refine HKN.out.mono ?_
 rintro e w9 ⟨rfl,rfl⟩
 obtain⟨c0,cf0,c1,cf1,c2,cf2,c3,cf3,c4,cf4,c5,cf5,c6,cf6⟩:=facts7f HK1.out
 go_wp2_with fail
 refine bodyPost_ret (results_ctt rfl _ _ b8 62 #[_,_,_,_,_,_,_] (0,0) _ rfl (blk_put7 HK1.out _ _ _ _ _ _ _) HU.out rfl (by kernel_rfl)) rfl ?_
 have HBE:=below_put7 (g:=b8) HB1.out (by have:=HB8.out;omega) (.int .i64 0) (.string ⟨#[]⟩) (.int .u64 0) (.slice none 0 0) (.int .u64 0) (.int .u64 0) (.string ⟨#[]⟩)
 exact GetPost.early HH.out HBE 1
theorem R_above' {α:Type} {d:Kd α} {e:Nat} {w w':World} {base g:Nat} {ok:Nat→Prop} {v:Value} {xs:List α} (h:d.R e w base (fun k=>ok k∧base≤k∧k<w.heap.size∧∃q,q∈e::d.E∧∃cells,w.heap[k]? =some (.cells cells q (0,0))) v xs) (hk:Kp w w' (fun k=>k=g)) (hg:g<base:=by omega):d.R e w' base (fun k=>ok k∧base≤k) v xs:=
 Kd.R_mono (Kd.R_step h (fun k hk' hlt=>hk.block k hlt (fun e=>by have:=hk'.2.1;omega))) (fun k hk=>⟨hk.1,hk.2.1⟩)
theorem heap_put7 (w:World) {g k:Nat} (h:k≠g) (v0 v1 v2 v3 v4 v5 v6:Value):
  (((((((w.setCell ⟨g,0,none⟩ v0).setCell ⟨g,1,none⟩ v1).setCell ⟨g,2,none⟩ v2).setCell ⟨g,3,none⟩ v3).setCell ⟨g,4,none⟩ v4).setCell ⟨g,5,none⟩ v5).setCell ⟨g,6,none⟩ v6).heap[k]? =w.heap[k]? :=by
 rw[Below.heap_setCell _ _ _ _ h,Below.heap_setCell _ _ _ _ h,Below.heap_setCell _ _ _ _ h,Below.heap_setCell _ _ _ _ h,Below.heap_setCell _ _ _ _ h,Below.heap_setCell _ _ _ _ h,Below.heap_setCell _ _ _ _ h]
set_option maxHeartbeats 8000000 in
set_option maxRecDepth 100000 in
theorem sget_ok {W:World} {S:Nat→Prop} {t:Nat} {T:List ByteArray} (h:Tab W S t T) (v:Int) (A:Option Addr) (c:Nat) (ps:List (List Int)) (a:Nat) (hv:1≤v∧v≤3) (ha:a≤ps.length) (hps: ∀W',Kp W W' S→Kd.C kRows W' A ps.length ps) (hc:ps.length≤c) (hbt: ∀p∈ps,p.length≤3000∧∀x∈p,0≤x∧x<256) (hT:T.length≤50000) (hn:ps.length≤10000):
  Calls Try.prog 37 #[.int .i64 v, .pointer (some ⟨t,0,none⟩), .slice A ps.length c, .int .i64 (a:Int)] W (GetPost W S t (getF v T ps (a:Int))):=by
 obtain⟨W1,hW1⟩: ∃w,W.alloc (.cells #[.int .i64 0, .string ⟨#[]⟩, .int .u64 0, .slice none 0 0, .int .u64 0, .int .u64 0, .string ⟨#[]⟩] 62)=w:=⟨_,rfl⟩
 have hb1:Below W.heap.size W W1:=by rw[←hW1];exact(Below.refl _ _).alloc (Nat.le_refl _) _
 have hk1:W1.heap[W.heap.size]? =some (.cells #[.int .i64 0, .string ⟨#[]⟩, .int .u64 0, .slice none 0 0, .int .u64 0, .int .u64 0, .string ⟨#[]⟩] 62 (0,0)):=by rw[←hW1];exact heap_new _ _
 have hs1:W1.heap.size=W.heap.size+1:=by rw[←hW1,heap_size_alloc]
 obtain⟨b8,hb8⟩: ∃b,W.heap.size=b:=⟨_,rfl⟩
 rw[hb8]at hk1 hs1
 have HH:=Lib.hid h
 have HB1:=Lib.hid hb1
 have HK1:=Lib.hid hk1
 have HW1:=Lib.hid hW1
 have HB8:=Lib.hid hb8
 have HS1:=Lib.hid hs1
 have HU:=Lib.hid Try.underlying62
 have HCP:=Lib.hid (copy_any (h.keep (Kp.of_below hb1 (fun _=>False)) (fun _ _ h=>h)) (by omega))
 have HKN:=Lib.hid (known9_any v W1)
 rw[show decide (1≤v∧v≤3)=true from decide_eq_true hv]at HKN
 obtain⟨g1,hg1⟩: ∃g,W1.heap.size=g:=⟨_,rfl⟩
 rw[hg1]at HCP
 have HV:=Lib.hid hv
 have HPS:=Lib.hid hps
 have HBT:=Lib.hid hbt
 have HG1:=Lib.hid hg1
 have d0:decide ((a:Int)<0)=false:=decide_eq_false (by omega)
 have d1:decide ((ps.length:Int)<(a:Int))=false:=decide_eq_false (by omega)
 clear h hb1 hk1 hs1 hb8 hW1 hv hps hbt hg1
 go_enter Try.func37,Try.ntmps37
 go_wp2_with fail
 rw[HW1.out,HB8.out]
 refine HKN.out.mono ?_
 rintro e w9 ⟨rfl,rfl⟩
 go_wp2_with fail
 refine HCP.out.mono ?_
 rintro e w2 ⟨rfl,hN⟩
 have HN0:=Lib.hid hN
 clear hN d0 d1 HKN HCP
 go_wp2_with fail
 go_loopw [9] (fun u9 wr=>∃(n:Nat),a≤n∧n≤ps.length∧u9= .int .i64 (n:Int)∧Hid (∀j,a≤j→j<n→isDef (ps.getD j [])=true)∧Hid (NewTab W1 wr g1 (tnewOn T (((ps.drop a).take (n-a)).map defS)))) (fun v _=>ps.length-(intOf v).toNat)
 case atStart=>exact⟨a,Nat.le_refl _,ha,rfl,Lib.hid (fun j h1 h2=>by omega),Lib.hid (by rw[Nat.sub_self,List.take_zero];exact HN0.out)⟩
 case round=>
  obtain⟨n,hna,hnl,rfl,HD,HN⟩:=hrel
  by_cases hlt:n<ps.length
  ·have hC:=HPS.out wr (Kp.of_below (HB1.out.trans ((HN.out.below).mono HB1.out.size)) _)
   obtain⟨ad1,B1,d1,hA1,hc1,hl1,hr1⟩:=at_L5 hC (n:Int) (by omega) (by omega)
   subst hA1
   have e1:rd_L5 ps (n:Int)=ps[n]:=by simp[rd_L5,hlt]
   rw[e1,Int.toNat_natCast]at hc1
   rw[e1]at hl1 hr1
   have hbp:=HBT.out ps[n] (List.getElem_mem _)
   have hgd:ps.getD n []=ps[n]:=by simp[hlt]
   have hG:isDef ps[n]=false→getF v T ps (a:Int)=getG v T ps a n (lastR v (tnewOn T (((ps.drop a).take (n-a)).map defS)) ps[n]).1:=fun hd=>by
    rw[getF_at HV.out hna hnl HD.out (fun _=>by rw[hgd];exact hd),if_neg (by omega),hgd]
   have htk:(ps.drop a).take (n+1-a)=(ps.drop a).take (n-a)++[ps[n]]:=by
    have h1:n-a<(ps.drop a).length:=by rw[List.length_drop];omega
    rw[show n+1-a=n-a+1 by omega,List.take_succ_eq_append_getElem h1,List.getElem_drop]
    congr 3
    omega
   have hdn:isDef ps[n]=true→∀j,a≤j→j<n+1→isDef (ps.getD j [])=true:=fun hd j h1 h2=>by
    rcases Nat.lt_or_ge j n with h3|h3
    ·exact HD.out j h1 h3
    ·obtain rfl:j=n:=by omega
     rw[hgd];exact hd
   clear hgd e1
   generalize ps[n]=p at*
   have hdl:decide ((n:Int)<(ps.length:Int))=true:=decide_eq_true (by omega)
   by_cases hp0:0<p.length
   ·obtain ⟨ad2,he2,hcell2⟩:=Kd.at_int hr1 (0:Int) (by omega) (by omega)
    subst he2
    have had:ad2.add 0=ad2:=by obtain⟨b,o,i⟩:=ad2;cases i<;>simp[Addr.add]
    replace hcell2:wr.cell? ad2=some (.int .u8 (rd p 0)):=by
     have h9:wr.cell? (ad2.add 0)=some (.int .u8 (rd p 0)):=hcell2
     rwa [had]at h9
    clear had
    have hpd:decide (0<(p.length:Int))=true:=decide_eq_true (by omega)
    have hdef:isDef p=decide (rd p 0=0):=by
     cases p with
     |nil=>simp at hp0
     |cons x r=>simp[isDef,rd]
    by_cases hx:rd p 0=0
    ·rw [hx]at hcell2
     rw[decide_eq_true hx]at hdef
     have hdt:decide (rd p 0=0)=true:=decide_eq_true hx
     have hCd:=Kd.C_drop (c:=d1) (m:=1) hr1 (by omega) hl1
     have hcv:=Kd.C_string (P:=Try.prog) (c:=d1-1) Try.underlying22 Try.underlying5 Try.underlying9 hCd
     rw[show(p.drop 1).length=p.length-1 from List.length_drop,List.drop_one]at hcv
     simp only[show(Kd.int .u8).sz=1 from rfl,Nat.mul_one]at hcv
     obtain⟨S1,hT1,hS1,hbl⟩:=HN.out
     obtain⟨s,hs⟩: ∃s,strOfNums p.tail=s:=⟨_,rfl⟩
     rw[hs]at hcv
     have hLn:=tnewOn_len T (((ps.drop a).take (n-a)).map defS)
     rw[List.length_map,List.length_take]at hLn
     have hsz:s.size≤maxLen:=by rw[←hs,strOfNums_size,List.length_tail];have:=hbp.1;simp only[maxLen];omega
     have HID:=Lib.hid (id_any hT1 s hsz (by omega))
     have hput:tput (tnewOn T (((ps.drop a).take (n-a)).map defS)) s=tnewOn T (((ps.drop a).take (n+1-a)).map defS):=by
      rw[htk,List.map_append,List.map_singleton,tnewOn_snoc,show defS p=s from hs]
     rw[hput]at HID
     have HDN:=Lib.hid (hdn hdef)
     have HS1':=Lib.hid hS1
     have HBL:=Lib.hid hbl
     have hdle:1≤d1:=by omega
     have hplen:p.length≤3000:=hbp.1
     clear hG htk hdn hdef hT1 hS1 hbl hs hLn hsz hput hCd hr1 hC hbp HN0
     by_cases hd11:d1=1
     ·rw [if_pos hd11]at hcv
      subst hd11
      have hcv:(convert 22 9 (.slice (some ad2) 0 0)).run Try.prog wr= .ok (.string s) wr:=by
       have h9:p.length-1=0:=by omega
       rw[h9]at hcv
       exact hcv
      go_wp2_with fail
      refine HID.out.mono ?_
      rintro e w5 ⟨rfl,hd⟩
      have HN5:=Lib.hid (NewTab.put HS1'.out HBL.out hd)
      clear hd HID hcv
      go_wp2_with fail
      go_roundw
      case rel=>exact⟨n+1,by omega,by omega,by go_num,HDN,HN5⟩
      case measure=>simp[intOf];omega
     ·rw[if_neg hd11]at hcv
      have hcv:(convert 22 9 (.slice (some ⟨ad2.block,ad2.off+1,none⟩) (p.length-1) (d1-1))).run Try.prog wr= .ok (.string s) wr:=hcv
      go_wp2_with fail
      refine HID.out.mono ?_
      rintro e w5 ⟨rfl,hd⟩
      have HN5:=Lib.hid (NewTab.put HS1'.out HBL.out hd)
      clear hd HID hcv
      go_wp2_with fail
      go_roundw
      case rel=>exact⟨n+1,by omega,by omega,by go_num,HDN,HN5⟩
      case measure=>simp[intOf];omega
    ·rw [decide_eq_false hx]at hdef
     have hdt:decide (rd p 0=0)=false:=decide_eq_false hx
     have hqf:decide ((n:Int)=(ps.length:Int))=false:=decide_eq_false (by omega)
     have HGQ:=Lib.hid (hG hdef)
     obtain⟨L,hLL⟩: ∃L,tnewOn T (((ps.drop a).take (n-a)).map defS)=L:=⟨_,rfl⟩
     rw[hLL]at HN HGQ
     obtain⟨S1,hT1,hS1,hbl⟩:=HN.out
     have hwd:=hT1.wide
     have hrg:=lastR_rg (v:=v) (T:=L) hwd hbp.2 (by omega)
     have HCN:=Lib.hid (cnew_any (some ad2) d1 p 0 wr hr1 hl1 (by omega))
     have HT1:=Lib.hid hT1
     have HS1':=Lib.hid hS1
     have HBL:=Lib.hid hbl
     have HBP:=Lib.hid hbp
     have hplen:p.length≤3000:=hbp.1
     have haq:a≤n+1:=by omega
     have hqn:n+1≤ps.length:=by omega
     have hqc:n+1≤c:=by omega
     obtain⟨R,hR⟩: ∃R,(lastR v L p).1=R:=⟨_,rfl⟩
     rw[hR]at hrg HGQ
     have HRR:=Lib.hid hR
     obtain⟨k0,x1,x2,l,x4,x5,x6⟩:=R
     have HRG:=Lib.hid hrg
     clear hT1 hS1 hbl hwd hrg hbp hLL hR hG hl1 hr1 hC htk hdn hdef
     go_wp2_with fail
     refine HCN.out.mono ?_
     rintro en w3 ⟨g,w0,rfl,hbA,hcu,hbB,_,_⟩
     rw[newAt0 p,newE0 p]at hcu
     have hg0:w0.heap.size≤g:=by obtain⟨_,_,_,h,_⟩:=hcu;exact h
     have hbw:Below wr.heap.size wr w3:=hbA.trans (hbB.mono hbA.size)
     have hRd:Rd w0 w3 S1 g g1 L p 0 0:=⟨hcu,hbB,HT1.out.keep (Kp.of_below hbw (fun _=>False)) (fun _ _ h=>h),fun hs=>by have:=HT1.out.lt _ hs;have:=hbA.size;omega⟩
     have hb3:Below W1.heap.size W1 w3:=HBL.out.trans (hbw.mono HBL.out.size)
     have hgb:W1.heap.size≤g:=by have:=HBL.out.size;have:=hbA.size;omega
     have HRL:=Lib.hid (rlast_any v HV.out hRd HBP.out.2 (by omega))
     rw[HRR.out]at HRL
     have HB3:=Lib.hid hb3
     have HGB:=Lib.hid hgb
     clear hRd hcu hbA hbB hbw hb3 hgb hg0 HCN
     go_wp2_with fail
     refine HRL.out.mono ?_
     rintro en w4 ⟨dv,rfl,hR4,hk4⟩
     dsimp only at hR4
     obtain⟨A4,c4,rfl⟩:=Kd.R_slice hR4
     dsimp only
     have hb4:Below W1.heap.size W1 w4:=(Kp.trans (Kp.of_below HB3.out (fun k=>k=g)) hk4 (fun _ h=> .inl h)).to_below (fun k hk=>by have:=HGB.out;omega)
     have hk48:w4.heap[b8]? =some (.cells #[.int .i64 0, .string ⟨#[]⟩, .int .u64 0, .slice none 0 0, .int .u64 0, .int .u64 0, .string ⟨#[]⟩] 62 (0,0)):=(hb4.block b8 (by have:=HS1.out;omega)).trans HK1.out
     obtain⟨w5,hw5⟩: ∃w5,(((((((w4.setCell ⟨b8,0,none⟩ (.int .i64 k0)).setCell ⟨b8,1,none⟩ (.string x1)).setCell ⟨b8,2,none⟩ (.int .u64 x2)).setCell ⟨b8,3,none⟩ (.slice A4 l.length c4)).setCell ⟨b8,4,none⟩ (.int .u64 x4)).setCell ⟨b8,5,none⟩ (.int .u64 x5)).setCell ⟨b8,6,none⟩ (.string x6))=w5:=⟨_,rfl⟩
     have hk58:w5.heap[b8]? =some (.cells #[.int .i64 k0, .string x1, .int .u64 x2, .slice A4 l.length c4, .int .u64 x4, .int .u64 x5, .string x6] 62 (0,0)):=by rw[←hw5];exact blk_put7 hk48 _ _ _ _ _ _ _
     have hb40:Below b8 W w4:=(by have:=HB8.out;subst this;exact HB1.out.trans (hb4.mono HB1.out.size))
     have hb5:Below b8 W w5:=by rw[←hw5];exact below_put7 hb40 (Nat.le_refl _) _ _ _ _ _ _ _
     have hR5:Kd.R k109 109 w5 (b8+1) (fun _=>True) (.slice A4 l.length c4) l:=by
      rw[←hw5]
      exact R_above (Kd.R_lower hR4 (by have:=HB3.out.size;have:=HS1.out;omega)) (fun q hq _=>heap_put7 _ (by omega) _ _ _ _ _ _ _)
     have hT5:Tab w5 S t T:=HH.out.keep (Kp.of_below (HB8.out ▸ hb5) (fun _=>False)) (fun _ _ h=>h)
     have HCP2:=Lib.hid (copy_any hT5 (by omega))
     have HK48:=Lib.hid hk48
     have HW5:=Lib.hid hw5
     have HK58:=Lib.hid hk58
     have HB5:=Lib.hid hb5
     have HR5:=Lib.hid hR5
     obtain⟨g2,hg2⟩: ∃g,w5.heap.size=g:=⟨_,rfl⟩
     rw[hg2]at HCP2
     have HG2:=Lib.hid hg2
     clear hb4 hk48 hw5 hk58 hb40 hb5 hR5 hT5 hR4 hk4 hg2 HRL HB3 HGB HRR
     obtain⟨c0,cf0,c1,cf1,c2,cf2,c3,cf3,c4,cf4,c5,cf5,c6,cf6⟩:=facts7f HK48.out
     go_wp2_with fail
     rw[HW5.out]
     clear c0 cf0 c1 cf1 c2 cf2 c3 cf3 c4 cf4 c5 cf5 c6 cf6
     refine HCP2.out.mono ?_
     rintro en w6 ⟨rfl,hN6⟩
     obtain⟨S2,hT2,hS2,hb6⟩:=hN6
     rw[HG2.out]at hS2
     have h5b:b8+1≤g2:=by have:=HG2.out;have:=blk_lt HK58.out;omega
     have hR6:Kd.R k109 109 w6 (b8+1) (fun k=>k<g2) (.slice A4 l.length c4) l:=Kd.R_below (Kd.R_mono (Kd.R_bound HR5.out) (fun k hk=>by have:=hk.2.2.1;have:=HG2.out;omega)) hb6
     have hk68:=blk_below HK58.out hb6
     have hc4:=(Kd.R_reads' hR6).2.1
     have hb68:Below b8 W w6:=HB5.out.trans (hb6.mono (Nat.le_of_lt (blk_lt HK58.out)))
     have HPT:=Lib.hid (sput_any v hT2 k0 x1 x2 A4 c4 l x4 x5 x6 (fun W' hk=>(Kd.R_reads' (Kd.R_step hR6 (fun k hk' hlt=>hk.block k hlt (fun h2=>by have:=hS2 k h2;omega)))).2.2) hc4 ⟨by have:=HRG.out.n;dsimp only at this;omega,HRG.out.t,HRG.out.tag,fun d hd=>(HRG.out.d d hd).1⟩ HRG.out.r2 HRG.out.o HRG.out.w (fun d hd=>(HRG.out.d d hd).2) (by omega))
     have hpby:=putF_bytes v T (by omega) k0 HRG.out.k x1 HRG.out.t x2 HRG.out.r2.2 l (by have:=HRG.out.n;dsimp only at this;omega) (fun d hd=>⟨(HRG.out.d d hd).1,(HRG.out.d d hd).2.2⟩) x4 x5 HRG.out.o.2 HRG.out.w.2 x6
     have HGE:Hid (getF v T ps (a:Int)=getG v T ps a n (k0,x1,x2,l,x4,x5,x6)):=Lib.hid HGQ.out
     have hge:=HGE.out
     unfold getG at hge
     dsimp only at hge
     have HPT2:=Lib.hid (fun(W':World) (h9:Tab W' S t T) (hR:Kd.R k109 109 W' (b8+1) (fun k=>k<g2) (.slice A4 l.length c4) l)=>sput_any v h9 k0 x1 x2 A4 c4 l x4 x5 x6 (fun W'' hk=>(Kd.R_reads' (Kd.R_step (Kd.R_bound hR) (fun k hk' hlt=>hk.block k hlt (fun h2=>by have:=HH.out.lt k h2;have:=HB8.out;have:=hk'.2.1;omega)))).2.2) hc4 ⟨by have:=HRG.out.n;dsimp only at this;omega,HRG.out.t,HRG.out.tag,fun d hd=>(HRG.out.d d hd).1⟩ HRG.out.r2 HRG.out.o HRG.out.w (fun d hd=>(HRG.out.d d hd).2) (by omega))
     generalize putF v T k0 x1 x2 l x4 x5 x6=F at HPT HPT2 hpby hge
     obtain⟨rows,T2,er⟩:=F
     dsimp only at hpby hge
     have HGE2:=Lib.hid hge
     have HPBY:=Lib.hid hpby
     have HR6:=Lib.hid hR6
     have HS2:=Lib.hid hS2
     have HB68:=Lib.hid hb68
     have HK68:=Lib.hid hk68
     clear hge hpby hR6 hb6 hT2 hS2 hb68 hk68 HGE HGQ HCP2 HK58 HW5 HR5
     obtain⟨c0,cf0,c1,cf1,c2,cf2,c3,cf3,c4,cf4,c5,cf5,c6,cf6⟩:=facts7f HK68.out
     go_wp2_with fail
     clear c0 cf0 c1 cf1 c2 cf2 c3 cf3 c4 cf4 c5 cf5 c6 cf6
     refine HPT.out.mono ?_
     rintro en w7 ⟨v7,S7,rfl,hT7,hs7,hk7,hR7⟩
     dsimp only at hR7 ⊢
     obtain⟨A7,c7,rfl⟩:=Kd.R_slice hR7
     have hb7:Below b8 W w7:=by
      have e:=HB8.out
      subst e
      exact(Kp.trans (Kp.of_below HB68.out S2) hk7 (fun _ h=> .inl h)).to_below (fun k hk=>by have:=HS2.out k hk;omega)
     have hk78:=hk7.heap HK68.out (fun hs=>by have:=HS2.out _ hs;omega)
     have hR7d:Kd.R k109 109 w7 (b8+1) (fun k=>k<g2) (.slice A4 l.length c4) l:=Kd.R_step HR6.out (fun k hk' hlt=>hk7.block k hlt (fun h2=>by have:=HS2.out k h2;omega))
     have hC7:=(Kd.R_reads' hR7).2.2
     have HB7:=Lib.hid hb7
     have HK78:=Lib.hid hk78
     have HR7:=Lib.hid hR7d
     have HC7:=Lib.hid hC7
     clear hb7 hk78 hR7d hC7 hR7 hk7 hT7 hs7 HPT HB68 HK68 HR6
     by_cases her:er=0
     ·subst her
      have hCm:=Kd.C_mid (lo:=a) (hi:=n+1) (c:=c) (HPS.out w7 (Kp.of_below (HB8.out ▸ HB7.out) _)) haq hqn hc
      have hml:((ps.take (n+1)).drop a).length=n+1-a:=by rw[List.length_drop,List.length_take];omega
      simp only[show(kRows).sz=1 from rfl,Nat.mul_one]at hCm
      have hmb: ∀p∈(ps.take (n+1)).drop a,∀x∈p,0≤x∧x<256:=fun p hp=>(HBT.out p (List.mem_of_mem_take (List.mem_of_mem_drop hp))).2
      have hge3:=HGE2.out
      generalize (ps.take (n+1)).drop a=M at hCm hml hmb hge3
      rw[hml]at hCm
      have HGE3:=Lib.hid hge3
      have HMB:=Lib.hid hmb
      have HML:=Lib.hid hml
      clear hmb hml hge3
      have HEQ:=Lib.hid (fun(A2:Option Addr) (c2:Nat) (h2:Kd.C kRows w7 A2 M.length M)=>eqf_any A7 A2 c7 c2 rows M w7 HC7.out h2 HPBY.out HMB.out)
      rw[HML.out]at HEQ
      by_cases hca:c=a
      ·omega
      ·rw [if_neg hca]at hCm
       have HCM:Hid (Kd.C kRows w7 (some (ad1.add a)) (n+1-a) M):=Lib.hid hCm
       have HEQ2:=Lib.hid (HEQ.out (some (ad1.add a)) (c-a) HCM.out)
       clear hCm HEQ HCM
       go_wp2_with fail
       refine HEQ2.out.mono ?_
       rintro en w8 ⟨rfl,hb78⟩
       have hb8':Below b8 W w8:=HB7.out.trans (hb78.mono (Nat.le_of_lt (blk_lt HK78.out)))
       have hk88:=blk_below HK78.out hb78
       have hR8:=Kd.R_below HR7.out hb78
       have HB9:=Lib.hid hb8'
       have HK88:=Lib.hid hk88
       have HR8:=Lib.hid hR8
       clear hb8' hk88 hR8 hb78 HEQ2 HB7 HK78
       have HG3:=HGE3.out
       by_cases heq:rows=M
       ·rw [if_pos ⟨by trivial,heq⟩]at HG3
        have HGZ:=Lib.hid HG3
        rw[show decide (rows=M)=true from decide_eq_true heq]
        clear HG3 heq HGE3
        obtain⟨c0,cf0,c1,cf1,c2,cf2,c3,cf3,c4,cf4,c5,cf5,c6,cf6⟩:=facts7f HK88.out
        go_wp2_with fail
        clear c0 cf0 c1 cf1 c2 cf2 c3 cf3 c4 cf4 c5 cf5 c6 cf6
        refine(HPT2.out w8 (HH.out.keep (Kp.of_below (HB8.out ▸ HB9.out) (fun _=>False)) (fun _ _ h=>h)) HR8.out).mono ?_
        rintro en w9 ⟨v9,S9,rfl,hT9,hs9,hk9,_⟩
        dsimp only at hT9
        have hnS: ∀k,b8≤k→¬S k:=fun k hk hs=>by have:=HH.out.lt k hs;have:=HB8.out;omega
        have hk98:=hk9.heap HK88.out (hnS b8 (Nat.le_refl _))
        have hR9:Kd.R k109 109 w9 (b8+1) (fun k=>k<w8.heap.size∧b8+1≤k) (.slice A4 l.length c4) l:=Kd.R_step (Kd.R_mono (Kd.R_bound HR8.out) (fun k hk=>⟨hk.2.2.1,hk.2.1⟩)) (fun k hk' hlt=>hk9.block k hlt (hnS k (by omega)))
        have HK98:=Lib.hid hk98
        have HR9:=Lib.hid hR9
        have HT9:=Lib.hid hT9
        have HS9:=Lib.hid hs9
        have HK9:=Lib.hid hk9
        have HNS:=Lib.hid hnS
        clear hk98 hR9 hT9 hs9 hk9 hnS
        obtain⟨c0,cf0,c1,cf1,c2,cf2,c3,cf3,c4,cf4,c5,cf5,c6,cf6⟩:=facts7f HK98.out
        go_wp2_with fail
        clear c0 cf0 c1 cf1 c2 cf2 c3 cf3 c4 cf4 c5 cf5 c6 cf6
        refine bodyPost_ret (results_ctt rfl _ _ b8 62 #[_,_,_,_,_,_,_] (0,0) _ rfl (blk_put7 HK98.out _ _ _ _ _ _ _) HU.out rfl (by kernel_rfl)) rfl ?_
        rw[HGZ.out]
        have hkp:=kp_put7 w9 b8 (.int .i64 k0) (.string x1) (.int .u64 x2) (.slice A4 l.length c4) (.int .u64 x4) (.int .u64 x5) (.string x6)
        have hb9: ∀k,S9 k→¬k=b8:=fun k hk e=>by
         rcases HS9.out k hk with h9|h9
         ·exact HNS.out k (by omega) h9
         ·have:=blk_lt HK88.out;omega
        have hsz:=blk_lt HK88.out
        have e8:=HB8.out
        refine⟨.slice A4 l.length c4,S9,rfl,HT9.out.keep hkp hb9,fun k hk=> ?_, ?_, ?_⟩
        ·rcases HS9.out k hk with h9|h9
         ·exact .inl h9
         ·exact .inr (by omega)
        ·exact((Kp.of_below (HB8.out ▸ HB9.out) S).trans HK9.out (fun k hk=> .inl hk)).trans hkp (fun k hk=> .inr (by omega))
        ·refine Kd.R_mono (Kd.R_lower (R_above' (Kd.R_bound HR9.out) hkp) (by omega)) (fun k hk hs=> ?_)
         rcases HS9.out k hs with h9|h9
         ·exact HNS.out k (by have:=hk.1.2;omega) h9
         ·have:=hk.1.1;omega
       ·rw[if_neg (fun h=>heq h.2)]at HG3
        have HGZ:=Lib.hid HG3
        rw[show decide (rows=M)=false from decide_eq_false heq]
        clear HG3 heq HGE3
        obtain⟨c0,cf0,c1,cf1,c2,cf2,c3,cf3,c4,cf4,c5,cf5,c6,cf6⟩:=facts7f HK88.out
        go_wp2_with fail
        refine bodyPost_ret (results_ctt rfl _ _ b8 62 #[_,_,_,_,_,_,_] (0,0) _ rfl (blk_put7 HK88.out _ _ _ _ _ _ _) HU.out rfl (by kernel_rfl)) rfl ?_
        rw[HGZ.out]
        have HBE:=below_put7 HB9.out (Nat.le_refl b8) (.int .i64 0) (.string ⟨#[]⟩) (.int .u64 0) (.slice none 0 0) (.int .u64 0) (.int .u64 0) (.string ⟨#[]⟩)
        have HE8:=HB8.out
        subst HE8
        exact GetPost.early HH.out HBE 3
     ·have hne:(er !=0)=true:=by simp[her]
      have hed:decide (er=0)=false:=decide_eq_false her
      have hG3:=HGE2.out
      rw[if_neg (fun h=>her h.1)]at hG3
      have HG3:=Lib.hid hG3
      clear hG3
      obtain⟨c0,cf0,c1,cf1,c2,cf2,c3,cf3,c4,cf4,c5,cf5,c6,cf6⟩:=facts7f HK78.out
      go_wp2_with fail
      refine bodyPost_ret (results_ctt rfl _ _ b8 62 #[_,_,_,_,_,_,_] (0,0) _ rfl (blk_put7 HK78.out _ _ _ _ _ _ _) HU.out rfl (by kernel_rfl)) rfl ?_
      rw[HG3.out]
      have HBE:=below_put7 HB7.out (Nat.le_refl b8) (.int .i64 0) (.string ⟨#[]⟩) (.int .u64 0) (.slice none 0 0) (.int .u64 0) (.int .u64 0) (.string ⟨#[]⟩)
      have HE8:=HB8.out
      subst HE8
      exact GetPost.early HH.out HBE 3
   ·have hpd:decide (0<(p.length:Int))=false:=decide_eq_false (by omega)
    have hdef:isDef p=false:=by
     cases p with
     |nil=>rfl
     |cons x r=>simp at hp0
    have hqf:decide ((n:Int)=(ps.length:Int))=false:=decide_eq_false (by omega)
    have HGQ:=Lib.hid (hG hdef)
    obtain⟨L,hLL⟩: ∃L,tnewOn T (((ps.drop a).take (n-a)).map defS)=L:=⟨_,rfl⟩
    rw[hLL]at HN HGQ
    obtain⟨S1,hT1,hS1,hbl⟩:=HN.out
    have hwd:=hT1.wide
    have hrg:=lastR_rg (v:=v) (T:=L) hwd hbp.2 (by omega)
    have HCN:=Lib.hid (cnew_any B1 d1 p 0 wr hr1 hl1 (by omega))
    have HT1:=Lib.hid hT1
    have HS1':=Lib.hid hS1
    have HBL:=Lib.hid hbl
    have HBP:=Lib.hid hbp
    have hplen:p.length≤3000:=hbp.1
    have haq:a≤n+1:=by omega
    have hqn:n+1≤ps.length:=by omega
    have hqc:n+1≤c:=by omega
    obtain⟨R,hR⟩: ∃R,(lastR v L p).1=R:=⟨_,rfl⟩
    rw[hR]at hrg HGQ
    have HRR:=Lib.hid hR
    obtain⟨k0,x1,x2,l,x4,x5,x6⟩:=R
    have HRG:=Lib.hid hrg
    clear hT1 hS1 hbl hwd hrg hbp hLL hR hG hl1 hr1 hC htk hdn hdef
    go_wp2_with fail
    refine HCN.out.mono ?_
    rintro en w3 ⟨g,w0,rfl,hbA,hcu,hbB,_,_⟩
    rw[newAt0 p,newE0 p]at hcu
    have hg0:w0.heap.size≤g:=by obtain⟨_,_,_,h,_⟩:=hcu;exact h
    have hbw:Below wr.heap.size wr w3:=hbA.trans (hbB.mono hbA.size)
    have hRd:Rd w0 w3 S1 g g1 L p 0 0:=⟨hcu,hbB,HT1.out.keep (Kp.of_below hbw (fun _=>False)) (fun _ _ h=>h),fun hs=>by have:=HT1.out.lt _ hs;have:=hbA.size;omega⟩
    have hb3:Below W1.heap.size W1 w3:=HBL.out.trans (hbw.mono HBL.out.size)
    have hgb:W1.heap.size≤g:=by have:=HBL.out.size;have:=hbA.size;omega
    have HRL:=Lib.hid (rlast_any v HV.out hRd HBP.out.2 (by omega))
    rw[HRR.out]at HRL
    have HB3:=Lib.hid hb3
    have HGB:=Lib.hid hgb
    clear hRd hcu hbA hbB hbw hb3 hgb hg0 HCN
    go_wp2_with fail
    refine HRL.out.mono ?_
    rintro en w4 ⟨dv,rfl,hR4,hk4⟩
    dsimp only at hR4
    obtain⟨A4,c4,rfl⟩:=Kd.R_slice hR4
    dsimp only
    have hb4:Below W1.heap.size W1 w4:=(Kp.trans (Kp.of_below HB3.out (fun k=>k=g)) hk4 (fun _ h=> .inl h)).to_below (fun k hk=>by have:=HGB.out;omega)
    have hk48:w4.heap[b8]? =some (.cells #[.int .i64 0, .string ⟨#[]⟩, .int .u64 0, .slice none 0 0, .int .u64 0, .int .u64 0, .string ⟨#[]⟩] 62 (0,0)):=(hb4.block b8 (by have:=HS1.out;omega)).trans HK1.out
    obtain⟨w5,hw5⟩: ∃w5,(((((((w4.setCell ⟨b8,0,none⟩ (.int .i64 k0)).setCell ⟨b8,1,none⟩ (.string x1)).setCell ⟨b8,2,none⟩ (.int .u64 x2)).setCell ⟨b8,3,none⟩ (.slice A4 l.length c4)).setCell ⟨b8,4,none⟩ (.int .u64 x4)).setCell ⟨b8,5,none⟩ (.int .u64 x5)).setCell ⟨b8,6,none⟩ (.string x6))=w5:=⟨_,rfl⟩
    have hk58:w5.heap[b8]? =some (.cells #[.int .i64 k0, .string x1, .int .u64 x2, .slice A4 l.length c4, .int .u64 x4, .int .u64 x5, .string x6] 62 (0,0)):=by rw[←hw5];exact blk_put7 hk48 _ _ _ _ _ _ _
    have hb40:Below b8 W w4:=(by have:=HB8.out;subst this;exact HB1.out.trans (hb4.mono HB1.out.size))
    have hb5:Below b8 W w5:=by rw[←hw5];exact below_put7 hb40 (Nat.le_refl _) _ _ _ _ _ _ _
    have hR5:Kd.R k109 109 w5 (b8+1) (fun _=>True) (.slice A4 l.length c4) l:=by
     rw[←hw5]
     exact R_above (Kd.R_lower hR4 (by have:=HB3.out.size;have:=HS1.out;omega)) (fun q hq _=>heap_put7 _ (by omega) _ _ _ _ _ _ _)
    have hT5:Tab w5 S t T:=HH.out.keep (Kp.of_below (HB8.out ▸ hb5) (fun _=>False)) (fun _ _ h=>h)
    have HCP2:=Lib.hid (copy_any hT5 (by omega))
    have HK48:=Lib.hid hk48
    have HW5:=Lib.hid hw5
    have HK58:=Lib.hid hk58
    have HB5:=Lib.hid hb5
    have HR5:=Lib.hid hR5
    obtain⟨g2,hg2⟩: ∃g,w5.heap.size=g:=⟨_,rfl⟩
    rw[hg2]at HCP2
    have HG2:=Lib.hid hg2
    clear hb4 hk48 hw5 hk58 hb40 hb5 hR5 hT5 hR4 hk4 hg2 HRL HB3 HGB HRR
    obtain⟨c0,cf0,c1,cf1,c2,cf2,c3,cf3,c4,cf4,c5,cf5,c6,cf6⟩:=facts7f HK48.out
    go_wp2_with fail
    rw[HW5.out]
    clear c0 cf0 c1 cf1 c2 cf2 c3 cf3 c4 cf4 c5 cf5 c6 cf6
    refine HCP2.out.mono ?_
    rintro en w6 ⟨rfl,hN6⟩
    obtain⟨S2,hT2,hS2,hb6⟩:=hN6
    rw[HG2.out]at hS2
    have h5b:b8+1≤g2:=by have:=HG2.out;have:=blk_lt HK58.out;omega
    have hR6:Kd.R k109 109 w6 (b8+1) (fun k=>k<g2) (.slice A4 l.length c4) l:=Kd.R_below (Kd.R_mono (Kd.R_bound HR5.out) (fun k hk=>by have:=hk.2.2.1;have:=HG2.out;omega)) hb6
    have hk68:=blk_below HK58.out hb6
    have hc4:=(Kd.R_reads' hR6).2.1
    have hb68:Below b8 W w6:=HB5.out.trans (hb6.mono (Nat.le_of_lt (blk_lt HK58.out)))
    have HPT:=Lib.hid (sput_any v hT2 k0 x1 x2 A4 c4 l x4 x5 x6 (fun W' hk=>(Kd.R_reads' (Kd.R_step hR6 (fun k hk' hlt=>hk.block k hlt (fun h2=>by have:=hS2 k h2;omega)))).2.2) hc4 ⟨by have:=HRG.out.n;dsimp only at this;omega,HRG.out.t,HRG.out.tag,fun d hd=>(HRG.out.d d hd).1⟩ HRG.out.r2 HRG.out.o HRG.out.w (fun d hd=>(HRG.out.d d hd).2) (by omega))
    have hpby:=putF_bytes v T (by omega) k0 HRG.out.k x1 HRG.out.t x2 HRG.out.r2.2 l (by have:=HRG.out.n;dsimp only at this;omega) (fun d hd=>⟨(HRG.out.d d hd).1,(HRG.out.d d hd).2.2⟩) x4 x5 HRG.out.o.2 HRG.out.w.2 x6
    have HGE:Hid (getF v T ps (a:Int)=getG v T ps a n (k0,x1,x2,l,x4,x5,x6)):=Lib.hid HGQ.out
    have hge:=HGE.out
    unfold getG at hge
    dsimp only at hge
    have HPT2:=Lib.hid (fun(W':World) (h9:Tab W' S t T) (hR:Kd.R k109 109 W' (b8+1) (fun k=>k<g2) (.slice A4 l.length c4) l)=>sput_any v h9 k0 x1 x2 A4 c4 l x4 x5 x6 (fun W'' hk=>(Kd.R_reads' (Kd.R_step (Kd.R_bound hR) (fun k hk' hlt=>hk.block k hlt (fun h2=>by have:=HH.out.lt k h2;have:=HB8.out;have:=hk'.2.1;omega)))).2.2) hc4 ⟨by have:=HRG.out.n;dsimp only at this;omega,HRG.out.t,HRG.out.tag,fun d hd=>(HRG.out.d d hd).1⟩ HRG.out.r2 HRG.out.o HRG.out.w (fun d hd=>(HRG.out.d d hd).2) (by omega))
    generalize putF v T k0 x1 x2 l x4 x5 x6=F at HPT HPT2 hpby hge
    obtain⟨rows,T2,er⟩:=F
    dsimp only at hpby hge
    have HGE2:=Lib.hid hge
    have HPBY:=Lib.hid hpby
    have HR6:=Lib.hid hR6
    have HS2:=Lib.hid hS2
    have HB68:=Lib.hid hb68
    have HK68:=Lib.hid hk68
    clear hge hpby hR6 hb6 hT2 hS2 hb68 hk68 HGE HGQ HCP2 HK58 HW5 HR5
    obtain⟨c0,cf0,c1,cf1,c2,cf2,c3,cf3,c4,cf4,c5,cf5,c6,cf6⟩:=facts7f HK68.out
    go_wp2_with fail
    clear c0 cf0 c1 cf1 c2 cf2 c3 cf3 c4 cf4 c5 cf5 c6 cf6
    refine HPT.out.mono ?_
    rintro en w7 ⟨v7,S7,rfl,hT7,hs7,hk7,hR7⟩
    dsimp only at hR7 ⊢
    obtain⟨A7,c7,rfl⟩:=Kd.R_slice hR7
    have hb7:Below b8 W w7:=by
     have e:=HB8.out
     subst e
     exact(Kp.trans (Kp.of_below HB68.out S2) hk7 (fun _ h=> .inl h)).to_below (fun k hk=>by have:=HS2.out k hk;omega)
    have hk78:=hk7.heap HK68.out (fun hs=>by have:=HS2.out _ hs;omega)
    have hR7d:Kd.R k109 109 w7 (b8+1) (fun k=>k<g2) (.slice A4 l.length c4) l:=Kd.R_step HR6.out (fun k hk' hlt=>hk7.block k hlt (fun h2=>by have:=HS2.out k h2;omega))
    have hC7:=(Kd.R_reads' hR7).2.2
    have HB7:=Lib.hid hb7
    have HK78:=Lib.hid hk78
    have HR7:=Lib.hid hR7d
    have HC7:=Lib.hid hC7
    clear hb7 hk78 hR7d hC7 hR7 hk7 hT7 hs7 HPT HB68 HK68 HR6
    by_cases her:er=0
    ·subst her
     have hCm:=Kd.C_mid (lo:=a) (hi:=n+1) (c:=c) (HPS.out w7 (Kp.of_below (HB8.out ▸ HB7.out) _)) haq hqn hc
     have hml:((ps.take (n+1)).drop a).length=n+1-a:=by rw[List.length_drop,List.length_take];omega
     simp only[show(kRows).sz=1 from rfl,Nat.mul_one]at hCm
     have hmb: ∀p∈(ps.take (n+1)).drop a,∀x∈p,0≤x∧x<256:=fun p hp=>(HBT.out p (List.mem_of_mem_take (List.mem_of_mem_drop hp))).2
     have hge3:=HGE2.out
     generalize (ps.take (n+1)).drop a=M at hCm hml hmb hge3
     rw[hml]at hCm
     have HGE3:=Lib.hid hge3
     have HMB:=Lib.hid hmb
     have HML:=Lib.hid hml
     clear hmb hml hge3
     have HEQ:=Lib.hid (fun(A2:Option Addr) (c2:Nat) (h2:Kd.C kRows w7 A2 M.length M)=>eqf_any A7 A2 c7 c2 rows M w7 HC7.out h2 HPBY.out HMB.out)
     rw[HML.out]at HEQ
     by_cases hca:c=a
     ·omega
     ·rw [if_neg hca]at hCm
      have HCM:Hid (Kd.C kRows w7 (some (ad1.add a)) (n+1-a) M):=Lib.hid hCm
      have HEQ2:=Lib.hid (HEQ.out (some (ad1.add a)) (c-a) HCM.out)
      clear hCm HEQ HCM
      go_wp2_with fail
      refine HEQ2.out.mono ?_
      rintro en w8 ⟨rfl,hb78⟩
      have hb8':Below b8 W w8:=HB7.out.trans (hb78.mono (Nat.le_of_lt (blk_lt HK78.out)))
      have hk88:=blk_below HK78.out hb78
      have hR8:=Kd.R_below HR7.out hb78
      have HB9:=Lib.hid hb8'
      have HK88:=Lib.hid hk88
      have HR8:=Lib.hid hR8
      clear hb8' hk88 hR8 hb78 HEQ2 HB7 HK78
      have HG3:=HGE3.out
      by_cases heq:rows=M
      ·rw [if_pos ⟨by trivial,heq⟩]at HG3
       have HGZ:=Lib.hid HG3
       rw[show decide (rows=M)=true from decide_eq_true heq]
       clear HG3 heq HGE3
       obtain⟨c0,cf0,c1,cf1,c2,cf2,c3,cf3,c4,cf4,c5,cf5,c6,cf6⟩:=facts7f HK88.out
       go_wp2_with fail
       clear c0 cf0 c1 cf1 c2 cf2 c3 cf3 c4 cf4 c5 cf5 c6 cf6
       refine(HPT2.out w8 (HH.out.keep (Kp.of_below (HB8.out ▸ HB9.out) (fun _=>False)) (fun _ _ h=>h)) HR8.out).mono ?_
       rintro en w9 ⟨v9,S9,rfl,hT9,hs9,hk9,_⟩
       dsimp only at hT9
       have hnS: ∀k,b8≤k→¬S k:=fun k hk hs=>by have:=HH.out.lt k hs;have:=HB8.out;omega
       have hk98:=hk9.heap HK88.out (hnS b8 (Nat.le_refl _))
       have hR9:Kd.R k109 109 w9 (b8+1) (fun k=>k<w8.heap.size∧b8+1≤k) (.slice A4 l.length c4) l:=Kd.R_step (Kd.R_mono (Kd.R_bound HR8.out) (fun k hk=>⟨hk.2.2.1,hk.2.1⟩)) (fun k hk' hlt=>hk9.block k hlt (hnS k (by omega)))
       have HK98:=Lib.hid hk98
       have HR9:=Lib.hid hR9
       have HT9:=Lib.hid hT9
       have HS9:=Lib.hid hs9
       have HK9:=Lib.hid hk9
       have HNS:=Lib.hid hnS
       clear hk98 hR9 hT9 hs9 hk9 hnS
       obtain⟨c0,cf0,c1,cf1,c2,cf2,c3,cf3,c4,cf4,c5,cf5,c6,cf6⟩:=facts7f HK98.out
       go_wp2_with fail
       clear c0 cf0 c1 cf1 c2 cf2 c3 cf3 c4 cf4 c5 cf5 c6 cf6
       refine bodyPost_ret (results_ctt rfl _ _ b8 62 #[_,_,_,_,_,_,_] (0,0) _ rfl (blk_put7 HK98.out _ _ _ _ _ _ _) HU.out rfl (by kernel_rfl)) rfl ?_
       rw[HGZ.out]
       have hkp:=kp_put7 w9 b8 (.int .i64 k0) (.string x1) (.int .u64 x2) (.slice A4 l.length c4) (.int .u64 x4) (.int .u64 x5) (.string x6)
       have hb9: ∀k,S9 k→¬k=b8:=fun k hk e=>by
        rcases HS9.out k hk with h9|h9
        ·exact HNS.out k (by omega) h9
        ·have:=blk_lt HK88.out;omega
       have hsz:=blk_lt HK88.out
       have e8:=HB8.out
       refine⟨.slice A4 l.length c4,S9,rfl,HT9.out.keep hkp hb9,fun k hk=> ?_, ?_, ?_⟩
       ·rcases HS9.out k hk with h9|h9
        ·exact .inl h9
        ·exact .inr (by omega)
       ·exact((Kp.of_below (HB8.out ▸ HB9.out) S).trans HK9.out (fun k hk=> .inl hk)).trans hkp (fun k hk=> .inr (by omega))
       ·refine Kd.R_mono (Kd.R_lower (R_above' (Kd.R_bound HR9.out) hkp) (by omega)) (fun k hk hs=> ?_)
        rcases HS9.out k hs with h9|h9
        ·exact HNS.out k (by have:=hk.1.2;omega) h9
        ·have:=hk.1.1;omega
      ·rw[if_neg (fun h=>heq h.2)]at HG3
       have HGZ:=Lib.hid HG3
       rw[show decide (rows=M)=false from decide_eq_false heq]
       clear HG3 heq HGE3
       obtain⟨c0,cf0,c1,cf1,c2,cf2,c3,cf3,c4,cf4,c5,cf5,c6,cf6⟩:=facts7f HK88.out
       go_wp2_with fail
       refine bodyPost_ret (results_ctt rfl _ _ b8 62 #[_,_,_,_,_,_,_] (0,0) _ rfl (blk_put7 HK88.out _ _ _ _ _ _ _) HU.out rfl (by kernel_rfl)) rfl ?_
       rw[HGZ.out]
       have HBE:=below_put7 HB9.out (Nat.le_refl b8) (.int .i64 0) (.string ⟨#[]⟩) (.int .u64 0) (.slice none 0 0) (.int .u64 0) (.int .u64 0) (.string ⟨#[]⟩)
       have HE8:=HB8.out
       subst HE8
       exact GetPost.early HH.out HBE 3
    ·have hne:(er !=0)=true:=by simp[her]
     have hed:decide (er=0)=false:=decide_eq_false her
     have hG3:=HGE2.out
     rw[if_neg (fun h=>her h.1)]at hG3
     have HG3:=Lib.hid hG3
     clear hG3
     obtain⟨c0,cf0,c1,cf1,c2,cf2,c3,cf3,c4,cf4,c5,cf5,c6,cf6⟩:=facts7f HK78.out
     go_wp2_with fail
     refine bodyPost_ret (results_ctt rfl _ _ b8 62 #[_,_,_,_,_,_,_] (0,0) _ rfl (blk_put7 HK78.out _ _ _ _ _ _ _) HU.out rfl (by kernel_rfl)) rfl ?_
     rw[HG3.out]
     have HBE:=below_put7 HB7.out (Nat.le_refl b8) (.int .i64 0) (.string ⟨#[]⟩) (.int .u64 0) (.slice none 0 0) (.int .u64 0) (.int .u64 0) (.string ⟨#[]⟩)
     have HE8:=HB8.out
     subst HE8
     exact GetPost.early HH.out HBE 3
  ·obtain rfl:n=ps.length:=by omega
   have hC:=HPS.out wr (Kp.of_below (HB1.out.trans ((HN.out.below).mono HB1.out.size)) _)
   have hGF:=getF_at (T:=T) HV.out hna hnl HD.out (fun h=>absurd h (by omega))
   rw[if_pos rfl]at hGF
   have HGF:=Lib.hid hGF
   have hb9:=HN.out.below
   have hk98:=(hb9.block b8 (by have:=HS1.out;omega)).trans HK1.out
   have hb98:Below b8 W wr:=(by have e:=HB8.out;subst e;exact HB1.out.trans (hb9.mono HB1.out.size))
   have HK98:=Lib.hid hk98
   have HB98:=Lib.hid hb98
   have hdl:decide ((ps.length:Int)<(ps.length:Int))=false:=decide_eq_false (by omega)
   clear hGF hb9 hk98 hb98 hC
   obtain⟨c0,cf0,c1,cf1,c2,cf2,c3,cf3,c4,cf4,c5,cf5,c6,cf6⟩:=facts7f HK98.out
   go_wp2_with fail
   refine bodyPost_ret (results_ctt rfl _ _ b8 62 #[_,_,_,_,_,_,_] (0,0) _ rfl (blk_put7 HK98.out _ _ _ _ _ _ _) HU.out rfl (by kernel_rfl)) rfl ?_
   rw[HGF.out]
   have HBE:=below_put7 HB98.out (Nat.le_refl b8) (.int .i64 0) (.string ⟨#[]⟩) (.int .u64 0) (.slice none 0 0) (.int .u64 0) (.int .u64 0) (.string ⟨#[]⟩)
   have HE8:=HB8.out
   subst HE8
   exact GetPost.early HH.out HBE 6
theorem sget_any {W:World} {S:Nat→Prop} {t:Nat} {T:List ByteArray} (h:Tab W S t T) (v:Int) (A:Option Addr) (c:Nat) (ps:List (List Int)) (at0:Int) (hps: ∀W',Kp W W' S→Kd.C kRows W' A ps.length ps) (hc:ps.length≤c) (hbt: ∀p∈ps,p.length≤3000∧∀x∈p,0≤x∧x<256) (hT:T.length≤50000) (hn:ps.length≤10000):
  Calls Try.prog 37 #[.int .i64 v, .pointer (some ⟨t,0,none⟩), .slice A ps.length c, .int .i64 at0] W (GetPost W S t (getF v T ps at0)):=by
 by_cases hv:1≤v∧v≤3
 ·by_cases h0:at0<0
  ·exact sget_arg1 h v A c ps at0 hv h0
  ·by_cases h1:(ps.length:Int)<at0
   ·exact sget_arg2 h v A c ps at0 hv ⟨by omega,h1⟩
   ·obtain⟨a,rfl⟩:=Int.eq_ofNat_of_zero_le (show 0≤at0 by omega)
    exact sget_ok h v A c ps a hv (by omega) hps hc hbt hT hn
 ·exact sget_ver h v A c ps at0 hv
theorem below_kp {w W W':World} {S:Nat→Prop} (h:Below w.heap.size w W) (hk:Kp W W' S) (hs: ∀k,S k→w.heap.size≤k):Below w.heap.size w W':=
 ((Kp.of_below h (fun _=>False)).trans hk (fun k h=> .inr (hs k h))).to_below (fun _ h=>h.elim)
def aB:ByteArray:=⟨#[97]⟩
theorem vb0:vb 0=[0]:=vb_small 0 (by omega)
theorem vb1:vb 1=[1]:=vb_small 1 (by omega)
theorem fx9_1:putF 1 [] 2 aB 0 [] 0 0 ⟨#[]⟩=([[2,1,97]],[],0):=by
 have hm:mayB 1 2 aB 0 [] 0 0 ⟨#[]⟩=true:=by decide
 have hb:blob aB=[1,97]:=by
  unfold blob
  rw[show aB.size=1 from rfl,vb1];rfl
 have h1:lastE 1 [] 2 aB 0 [] 0 0 ⟨#[]⟩=[2,1,97]:=by
  unfold lastE textE
  rw[if_pos rfl,if_pos rfl,hb];rfl
 unfold putF
 rw[if_pos (by omega),if_pos hm]
 simp only[show ¬((1:Int)<1) from by omega,if_false,h1,moreE_self]
 rfl
theorem fx9_2:putF 2 [] 2 aB 0 [] 0 0 ⟨#[]⟩=([[0,97],[2,0]],[aB],0):=by
 have hm:mayB 2 2 aB 0 [] 0 0 ⟨#[]⟩=true:=by decide
 have hn0:namesL aB [] ⟨#[]⟩=[aB]:=by
  unfold namesL
  rw[if_pos (tl_nil.2 rfl)];rfl
 have hn:tnewOn [] (tnew (namesL aB [] ⟨#[]⟩))=[aB]:=by rw[hn0];decide
 have hb:numE [aB] aB=[0]:=by
  unfold numE
  rw[show(atI [aB] aB).toNat=0 by decide,vb0];rfl
 have h1:lastE 2 [aB] 2 aB 0 [] 0 0 ⟨#[]⟩=[2,0]:=by
  unfold lastE textE
  rw[if_pos rfl,if_neg (by omega),hb];rfl
 unfold putF
 rw[if_pos (by omega),if_pos hm]
 simp only[show(1:Int)<2 from by omega,if_true,hn,h1]
 rw[show moreE [] [aB]=[[0,97]]by decide]
 rfl
theorem fx9_s1:([[2,1,97]]:List (List Int)).map strOfNums=[⟨#[2,1,97]⟩]:=by decide
theorem fx9_s2:([[0,97],[2,0]]:List (List Int)).map strOfNums=[⟨#[0,97]⟩,⟨#[2,0]⟩]:=by decide
set_option maxHeartbeats 4000000 in
set_option maxRecDepth 100000 in
theorem fixed9_any (w:World):Calls Try.prog 29 #[] w fun e w'=>e= .returned (.bool true)∧Below w.heap.size w w':=by
 have hok:RecOk aB [] ⟨#[]⟩:=⟨by simp,by decide,by decide,by simp⟩
 have HPU:=Lib.hid (fun(v:Int) (W:World) (S:Nat→Prop) (t:Nat) (T:List ByteArray) (h:Tab W S t T) (hT:T.length≤100000)=>sput_any v h 2 aB 0 none 0 [] 0 0 ⟨#[]⟩ (fun W' _=>Kd.C_nil _ _) (Nat.le_refl _) hok (by omega) (by omega) (by omega) (by simp) hT)
 rw[show([]:List S109).length=0 from rfl]at HPU
 clear hok
 obtain⟨w1,hw1⟩: ∃w1,w.alloc (.cells #[.int .i64 2, .string aB, .int .u64 0, .slice none 0 0, .int .u64 0, .int .u64 0, .string ⟨#[]⟩] 62)=w1:=⟨_,rfl⟩
 have hb1:Below w.heap.size w w1:=by rw[←hw1];exact(Below.refl _ _).alloc (Nat.le_refl _) _
 have hz1:w1.heap.size=w.heap.size+1:=by rw[←hw1,heap_size_alloc]
 have hk1:w1.heap[w.heap.size]? =some (.cells #[.int .i64 2, .string aB, .int .u64 0, .slice none 0 0, .int .u64 0, .int .u64 0, .string ⟨#[]⟩] 62 (0,0)):=by rw[←hw1];exact heap_new _ _
 have HW1:=Lib.hid (show w.alloc (.cells #[.int .i64 2, .string ⟨#[97]⟩, .int .u64 0, .slice none 0 0, .int .u64 0, .int .u64 0, .string ⟨#[]⟩] 62)=w1 from hw1)
 have HN:=Lib.hid (new_any none 0 [] w1 (Kd.C_nil _ _) (Nat.le_refl _) (by simp) (by simp))
 rw[show([]:List ByteArray).length=0 from rfl,show tnew ([]:List ByteArray)=[] from rfl]at HN
 obtain⟨b1,hbb⟩: ∃b,w.heap.size=b:=⟨_,rfl⟩
 rw[hbb]at hk1 hz1
 have HB1:=Lib.hid hb1
 have HK1:=Lib.hid hk1
 have HZ1:=Lib.hid hz1
 have HBB:=Lib.hid hbb
 clear hb1 hk1 hz1 hw1 hbb
 go_enter Try.func29,Try.ntmps29
 go_wp2_with fail
 rw[HW1.out,HBB.out]
 refine HN.out.mono ?_
 rintro e w2 ⟨rfl,hd⟩
 obtain⟨g,hg⟩: ∃g,w1.heap.size=g:=⟨_,rfl⟩
 rw[hg]at hd ⊢
 obtain⟨S,hT,hS,hB⟩:=hd.out
 have hz1:=HZ1.out
 have hnb: ¬S b1:=fun h=>by have:=hS _ h;omega
 have hB2:=HB1.out.trans (hB.mono HB1.out.size)
 have hSb: ∀k,S k→w.heap.size≤k:=fun k hk=>by have:=hS k hk;have:=HB1.out.size;omega
 have hk2:=blk_below HK1.out hB
 have HT:=Lib.hid hT
 have HS:=Lib.hid hSb
 have HNB:=Lib.hid hnb
 have HB2:=Lib.hid hB2
 have HK2:=Lib.hid hk2
 clear hd hT hS hB hB2 hSb hk2 hz1 hnb hg HN HK1 HZ1
 obtain⟨c0,c1,c2,c3,c4,c5,c6⟩:=facts7 HK2.out
 go_wp2_with fail
 clear c0 c1 c2 c3 c4 c5 c6
 refine(HPU.out 1 w2 S g [] HT.out (by simp)).mono ?_
 rintro e w3 ⟨v3,S3,rfl,hT3,hS3,hk3,hR3⟩
 rw[fx9_1]at hT3 hR3
 rw[fx9_1]
 dsimp only at hT3 hR3 ⊢
 obtain⟨A3,c3',rfl⟩:=Kd.R_slice hR3
 have HT3:=Lib.hid hT3
 have HR3:=Lib.hid hR3
 have HS3:=Lib.hid (fun k (h:S3 k)=>show w.heap.size≤k from(hS3 k h).elim (HS.out k) (fun h=>Nat.le_trans HB2.out.size h))
 have HB3:=Lib.hid (below_kp HB2.out hk3 HS.out)
 have HK3:=Lib.hid (hk3.heap HK2.out HNB.out)
 clear hT3 hR3 hS3 hk3 HK2 HNB HT
 obtain⟨c0,c1,c2,c3,c4,c5,c6⟩:=facts7 HK3.out
 go_wp2_with fail
 clear c0 c1 c2 c3 c4 c5 c6
 refine(HPU.out 2 w3 S3 g [] HT3.out (by simp)).mono ?_
 rintro e w4 ⟨v4,S4,rfl,hT4,hS4,hk4,hR4⟩
 rw[fx9_2]at hT4 hR4
 rw[fx9_2]
 dsimp only at hT4 hR4 ⊢
 obtain⟨A4,c4',rfl⟩:=Kd.R_slice hR4
 have hR3:=R_wrote HR3.out hk4 hS4
 have HB4:=Lib.hid (below_kp HB3.out hk4 HS3.out)
 have HA:=Lib.hid (fun(W:World) (h:Below w4.heap.size w4 W)=>tephralaw09_strings.calls 2 A3 c3' [[2,1,97]] [⟨#[2,1,97]⟩] W (Kd.C_below (Kd.R_reads' hR3).2.2 h) (Kd.R_reads' hR3).2.1 ((strs_is _ (by simp)).trans (congrArg some fx9_s1)))
 have HC:=Lib.hid (fun(W:World) (h:Below w4.heap.size w4 W)=>tephralaw09_strings.calls 3 A4 c4' [[0,97],[2,0]] [⟨#[0,97]⟩,⟨#[2,0]⟩] W (Kd.C_below (Kd.R_reads' hR4).2.2 h) (Kd.R_reads' hR4).2.1 ((strs_is _ (by simp)).trans (congrArg some fx9_s2)))
 clear hT4 hR4 hS4 hk4 hR3 HR3 HS3 HK3 HT3 HPU
 go_wp2_with fail
 refine(HA.out w4 (Below.refl _ _)).mono ?_
 rintro e w5 ⟨v5,rfl,hR5,hb⟩
 obtain⟨A5,c5',rfl⟩:=Kd.R_slice hR5
 have HB5:=Lib.hid (And.intro hb (HB4.out.trans (hb.mono HB4.out.size)))
 have h5:=Kd.R_reads' hR5
 have hbm:=(Below.refl w5.heap.size w5).alloc (Nat.le_refl _) (.cells #[.string ⟨#[2,1,97]⟩] 9)
 have hcm:=C_block_str (w5.alloc (.cells #[.string ⟨#[2,1,97]⟩] 9)) w5.heap.size 9 (0,0) [⟨#[2,1,97]⟩] (heap_new _ _) (by simp)
 have HSA:=Lib.hid (tephraref04_Same.calls 2 A5 c5' [⟨#[2,1,97]⟩] (some ⟨w5.heap.size,0,none⟩) 1 [⟨#[2,1,97]⟩] true _ (Kd.C_below h5.2.2 hbm) h5.2.1 hcm (Nat.le_refl _) (same4_is _ (by simp)))
 have HBM:=Lib.hid hbm
 clear hR5 hb h5 hcm hbm HA
 go_wp2_with fail
 refine HSA.out.mono ?_
 rintro e w6 ⟨rfl,hdr⟩
 have hb:=HBM.out.trans (hdr.below.mono HBM.out.size)
 have HB6:=Lib.hid (And.intro (HB5.out.1.trans (hb.mono HB5.out.1.size)) (HB5.out.2.trans (hb.mono HB5.out.2.size)))
 clear hdr hb HSA HBM HB5
 go_wp2_with fail
 refine(HC.out w6 HB6.out.1).mono ?_
 rintro e w7 ⟨v7,rfl,hR5,hb⟩
 obtain⟨A5,c5',rfl⟩:=Kd.R_slice hR5
 have HB7:=Lib.hid (HB6.out.2.trans (hb.mono HB6.out.2.size))
 have h5:=Kd.R_reads' hR5
 have hbm:=(Below.refl w7.heap.size w7).alloc (Nat.le_refl _) (.cells #[.string ⟨#[0,97]⟩, .string ⟨#[2,0]⟩] 9)
 have hcm:=C_block_str (w7.alloc (.cells #[.string ⟨#[0,97]⟩, .string ⟨#[2,0]⟩] 9)) w7.heap.size 9 (0,0) [⟨#[0,97]⟩,⟨#[2,0]⟩] (heap_new _ _) (by simp)
 have HSA:=Lib.hid (tephraref04_Same.calls 3 A5 c5' [⟨#[0,97]⟩,⟨#[2,0]⟩] (some ⟨w7.heap.size,0,none⟩) 2 [⟨#[0,97]⟩,⟨#[2,0]⟩] true _ (Kd.C_below h5.2.2 hbm) h5.2.1 hcm (Nat.le_refl _) (same4_is _ (by simp)))
 have HBM:=Lib.hid hbm
 clear hR5 hb h5 hcm hbm HC
 go_wp2_with fail
 refine HSA.out.mono ?_
 rintro e w8 ⟨rfl,hdr⟩
 have hb:=HBM.out.trans (hdr.below.mono HBM.out.size)
 have HB8:=Lib.hid (HB7.out.trans (hb.mono HB7.out.size))
 clear hdr hb HSA HBM HB7
 go_wp2_with fail
 go_ret
 exact⟨rfl,HB8.out⟩
def RdB (B:Nat) (W:World) (v:Value) (s:ByteArray):Prop:=∃b c cap fr,v= .slice (some ⟨b,0,none⟩) s.size c∧B≤b∧s.size≤c∧W.heap[b]? =some (.cells (Go.bytesRow s cap) 5 fr)
theorem RdB.below {B:Nat} {W W':World} {v:Value} {s:ByteArray} (h:RdB B W v s) (hb:Below W.heap.size W W'):RdB B W' v s:=by
 obtain⟨b,c,cap,fr,h1,h2,h3,h4⟩:=h
 exact⟨b,c,cap,fr,h1,h2,h3,(hb.block b (Array.getElem?_eq_some_iff.1 h4).1).trans h4⟩
theorem RdB.grown {B:Nat} {W W':World} {v:Value} {s:ByteArray} {row:Option Nat} (h:RdB B W v s) (hg:W.grownBy W' row) (ht: ∀k,row=some k→∃C fr,W.heap[k]? =some (.cells C 22 fr)):RdB B W' v s:=by
 obtain⟨b,c,cap,fr,h1,h2,h3,h4⟩:=h
 refine⟨b,c,cap,fr,h1,h2,h3,(hg.block b (Array.getElem?_eq_some_iff.1 h4).1 (fun e=> ?_)).trans h4⟩
 obtain⟨C,fr2,h5⟩:=ht b e.symm
 rw[h4]at h5
 injection h5 with h5
 injection h5 with _ h5
 exact absurd h5 (by decide)
theorem heap_new2 (w:World) (o p:Obj):((w.alloc o).alloc p).heap[w.heap.size+1]? =some p:=by
 have:=heap_new (w.alloc o) p
 rwa [heap_size_alloc]at this
set_option maxRecDepth 100000 in
set_option maxHeartbeats 1000000 in
theorem bytes9_any (A:Option Addr) (c:Nat) (l:List ByteArray) (w:World) (hC:Kd.C Kd.string w A l.length l) (hc:l.length≤c) (hl:l.length≤1000000):
  Calls Try.prog 39 #[.slice A l.length c] w fun e w'=>∃v vs,e= .returned v∧Kd.R valK 22 w' w.heap.size (fun _=>True) v vs∧vs.length=l.length∧(∀(k:Nat) (x: {v:Value //v.oneCell'=true}) s,vs[k]? =some x→l[k]? =some s→RdB w.heap.size w' x.1 s)∧Below w.heap.size w w':=by
 have HC:=Lib.hid hC
 clear hC
 go_enter Try.func39,Try.ntmps39
 go_wp2_with fail
 go_loopw [3,8] (fun u3 u8 wr=>∃(i:Nat) (vs:List {v:Value //v.oneCell'=true}),i≤l.length∧u8= .int .i64 i∧Hid (Kd.R valK 22 wr w.heap.size (fun _=>True) u3 vs)∧vs.length=i∧Hid (∀(k:Nat) (x: {v:Value //v.oneCell'=true}) s,vs[k]? =some x→l[k]? =some s→RdB w.heap.size wr x.1 s)∧Hid (Below w.heap.size w wr)) (fun _ v _=>l.length-(intOf v).toNat)
 case atStart=>exact⟨0,[],by omega,rfl,Lib.hid (Kd.R_nil _ _ _ _ _),rfl,Lib.hid (by simp),Lib.hid (Below.refl _ _)⟩
 case round=>
  obtain⟨i,vs,hi,rfl,HR,hvl,HE,HB⟩:=hrel
  by_cases hlt:i<l.length
  ·obtain ⟨ad,hA,hcell⟩:=Kd.at_string (Kd.C_below HC.out HB.out) (i:Int) (by omega) (by omega)
   subst hA
   rw[Int.toNat_natCast]at hcell
   obtain⟨s,hs⟩: ∃s,l[i]=s:=⟨_,rfl⟩
   have hrd:rdOf ByteArray.empty l (i:Int)=s:=by simp[rdOf,hlt,hs]
   rw[hrd]at hcell
   have kb:=fun(W:World)=>run_bytes_of_string (P:=Try.prog) W 9 22 5 s Try.underlying9 Try.underlying22 Try.underlying5
   have HS:=Lib.hid hs
   clear hs hrd
   go_wp2_with (at_builtin;refine Halt.mk ?_)
   refine Halt.of ?_
   obtain⟨cap,hcap⟩: ∃cap,grownCap wr s.size 0 5=cap:=⟨_,rfl⟩
   have hge:s.size≤cap:=by rw[←hcap];exact grownCap_ge _ _ _ _
   rw[hcap]
   have hb6:Below wr.heap.size wr (((wr.alloc (.cells (Go.bytesRow s cap) 5 ((Go.bytesRow s cap).size,(Go.bytesRow s cap).size+1))).alloc (.cells #[.slice (some ⟨wr.heap.size,0,none⟩) s.size cap] 22)).drew):=
    (((Below.refl _ _).alloc (Nat.le_refl _) _).alloc (by rw[heap_size_alloc];omega) _).drew
   have hk6:(((wr.alloc (.cells (Go.bytesRow s cap) 5 ((Go.bytesRow s cap).size,(Go.bytesRow s cap).size+1))).alloc (.cells #[.slice (some ⟨wr.heap.size,0,none⟩) s.size cap] 22)).drew).heap[wr.heap.size]? =some (.cells (Go.bytesRow s cap) 5 ((Go.bytesRow s cap).size,(Go.bytesRow s cap).size+1)):=
    (heap_new_old _ _ _ (by rw[heap_size_alloc];omega)).trans (heap_new _ _)
   have hk7:(((wr.alloc (.cells (Go.bytesRow s cap) 5 ((Go.bytesRow s cap).size,(Go.bytesRow s cap).size+1))).alloc (.cells #[.slice (some ⟨wr.heap.size,0,none⟩) s.size cap] 22)).drew).heap[wr.heap.size+1]? =some (.cells #[.slice (some ⟨wr.heap.size,0,none⟩) s.size cap] 22 (0,0)):=heap_new2 _ _ _
   have hBS:=HB.out.size
   have hB6:=HB.out.trans (hb6.mono hBS)
   have hn:RdB w.heap.size _ (.slice (some ⟨wr.heap.size,0,none⟩) s.size cap) s:=⟨wr.heap.size,cap,cap,_,rfl,hBS,hge,hk6⟩
   have hE6:=fun k x s h h'=>(HE.out k x s h h').below hb6
   have hR6:=Kd.R_below HR.out hb6
   generalize (((wr.alloc (.cells (Go.bytesRow s cap) 5 ((Go.bytesRow s cap).size,(Go.bytesRow s cap).size+1))).alloc (.cells #[.slice (some ⟨wr.heap.size,0,none⟩) s.size cap] 22)).drew)=w6 at*
   have hty: ∀k,u3.ownBlock=some k→∃C fr,w6.heap[k]? =some (.cells C 22 fr):=fun k hk=>by
    obtain⟨inner,how⟩:=Kd.R_own hR6
    obtain⟨C,h⟩:=own_typed how k hk
    exact⟨C,_,h⟩
   refine Kd.R_append_rows valK (w0:=w) w.heap.size rfl (.tmp 12) (.tmp 15) 41 22 (.slice none 0 0) 24 rfl Try.underlying41 info_bs9 rfl (by decide) (by omega) _ vs [⟨.slice (some ⟨wr.heap.size,0,none⟩) s.size cap,rfl⟩] _ _ _ (fun _=>True) (fun _=>False) rfl rfl hR6 (row_val _ hk7) ?_ (fun _ h=>h.elim) (fun _ _=>trivial) hB6 hB6.size (by rw[hvl];omega) ?_
   ·rintro _ _ ⟨rfl,rfl⟩;rfl
   intro v7 w8 hO8 hB8 hg8 _
   have hE8: ∀(k:Nat) (x: {v:Value //v.oneCell'=true}) s',(vs++[⟨.slice (some ⟨wr.heap.size,0,none⟩) s.size cap,rfl⟩])[k]? =some x→l[k]? =some s'→RdB w.heap.size w8 x.1 s':=by
    intro k x s' hx hs'
    rcases Nat.lt_or_ge k vs.length with hk|hk
    ·rw[List.getElem?_append_left hk]at hx
     exact(hE6 k x s' hx hs').grown hg8 hty
    ·rw [List.getElem?_append_right hk]at hx
     have hk0:k=vs.length:=by
      rcases Nat.eq_zero_or_pos (k-vs.length)with h|h
      ·omega
      ·rw[List.getElem?_eq_none (by simp;omega)]at hx;cases hx
     subst hk0
     rw[Nat.sub_self]at hx
     obtain rfl:_=x:=Option.some.inj hx
     have h9:=HS.out
     rw[hvl,List.getElem?_eq_getElem hlt,h9]at hs'
     obtain rfl:=Option.some.inj hs'
     exact hn.grown hg8 hty
   have HO8:=Lib.hid hO8
   have HB8:=Lib.hid hB8
   have HE8:=Lib.hid hE8
   clear hO8 hB8 hg8 hE8 hty hE6 hR6 hn hB6 hb6 hk6 hk7 kb
   go_wp2_with fail
   go_roundw
   case rel=>exact⟨i+1,_,by omega,by go_num,HO8,by rw[List.length_append,hvl];rfl,HE8,HB8⟩
   case measure=>simp[intOf];omega
  ·obtain rfl:i=l.length:=by omega
   go_wp2_with fail
   go_ret
   exact⟨_,vs,rfl,HR.out,hvl,HE.out,HB.out⟩
end Go.Proofs.Ytmeocdkiecknkaa
