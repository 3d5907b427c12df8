/- Texts laid as one by shake.py, cut to what the claim needs: SchF, SchE2, SchY, SchZ, SchG, SchH, SchV, CoG, RowR, GreH, SamH, GfP, WkD, WkE, SchN, MayH. (Names that begin with W and the print's groups (G..x, G..z): laid by the kit's print, cut.) -/
import Derived.Test.YtfflenbfapgilaaGreatZCu
import Derived.Test.YtfflenbfapgilaaGreatZCg
import Derived.Laws.IdiomStrings
import Derived.Test.YtfflenbfapgilaaGreatZCt
import Derived.Test.YtfflenbfapgilaaGreatZCk
import Derived.Test.YtfflenbfapgilaaGreatZCe
import Derived.Deep.QuietTactic
import Derived.BigQuiet
import Derived.Test.YtfflenbfapgilaaGreatZCF
set_option linter.unusedVariables false
set_option linter.unusedSimpArgs false
set_option maxHeartbeats 8000000
set_option maxRecDepth 100000
open Go.RowKit Go.Proofs.YtfflenbfapgilaaGreatW.PrintWords
namespace Go.Proofs.YtfflenbfapgilaaGreat
open Go.Proofs.YtfflenbfapgilaaGreat.GRR
theorem info_str9:(Tryz.prog.info? 9).map (fun i=>(i.zero,i.size,i.bytes))=some (some (.string ⟨#[]⟩),1,16):=by kernel_rfl
theorem ints_nats (l:List Int) (h: ∀x∈l,0≤x∧x<256):ints (nats l)=l:=by
 induction l with
 |nil=>rfl
 |cons a r ih=>
  have h1:=h a List.mem_cons_self
  have h2:=ih (fun x hx=>h x (List.mem_cons_of_mem _ hx))
  have e:ints (nats (a::r))=((a.toNat:Nat):Int)::ints (nats r):=by simp[ints,nats]
  rw[e,h2]
  congr 1
  omega
theorem strs_inj {l1 l2:List Int} (h1: ∀x∈l1,0≤x∧x<256) (h2: ∀x∈l2,0≤x∧x<256):((strOfNums l1).toList==(strOfNums l2).toList)=decide (l1=l2):=by
 rw[Bool.eq_iff_iff,beq_iff_eq,decide_eq_true_eq]
 constructor
 ·intro h
  rw[←ints_nats l1 h1,←ints_nats l2 h2]at h ⊢
  have hb: ∀(l:List Int),(∀x∈l,0≤x∧x<256)→∀x∈nats l,x<256:=by
   intro l hl x hx
   simp only[nats,List.mem_map]at hx
   obtain⟨y,hy,rfl⟩:=hx
   have:=hl y hy
   omega
  rw[GVB.str_inj (nats l1) (nats l2) (hb l1 h1) (hb l2 h2) h]
 ·rintro rfl;rfl
theorem eqf_any (A1 A2:Option Addr) (c1 c2:Nat) (l1 l2:List (List Int)) (w:World) (hC1:Kd.C kRows w A1 l1.length l1) (hC2:Kd.C kRows w A2 l2.length l2) (hb1: ∀p∈l1,∀x∈p,0≤x∧x<256) (hb2: ∀p∈l2,∀x∈p,0≤x∧x<256):
  Calls Tryz.prog 48 #[.slice A1 l1.length c1,.slice A2 l2.length c2,.func (.func 49) #[] #[]] w fun e w'=>e= .returned (.bool (decide (l1=l2)))∧Below w.heap.size w w':=by
 have H1:=hQ hC1
 have H2:=hQ hC2
 have HB1:=hQ hb1
 have HB2:=hQ hb2
 have hm1:=hC1.2.1
 have hm2:=hC2.2.1
 clear hC1 hC2 hb1 hb2
 by_cases hlen:l1.length=l2.length
 ·have hld:decide ((l1.length:Int)=(l2.length:Int))=true:=decide_eq_true (by omega)
  have hlq:((l1.length:Int) !=(l2.length:Int))=false:=by simp;omega
  have HLN:=hQ hlen
  clear hlen
  go_enter Tryz.func48,Tryz.ntmps48
  go_wp2_with fail
  go_loopw [17] (fun u wr=>∃(i:Nat),i≤l1.length∧u= .int .i64 i∧Hid (l1.take i=l2.take i)∧Hid (Below w.heap.size w wr)) (fun v _=>l1.length-(intOf v).toNat)
  case atStart=>exact⟨0,by omega,rfl,hQ rfl,hQ (Below.refl _ _)⟩
  case round=>
   obtain⟨i,hi,rfl,HE,HB⟩:=hrel
   by_cases hlt:i<l1.length
   ·have hlt2:i<l2.length:=by have:=HLN.out;omega
    obtain⟨ad1,B1,d1,hA1,hc1,hl1,hr1⟩:=at_L5 (Kd.C_below H1.out HB.out) (i:Int) (by omega) (by omega)
    obtain⟨ad2,B2,d2,hA2,hc2,hl2,hr2⟩:=at_L5 (Kd.C_below H2.out HB.out) (i:Int) (by omega) (by omega)
    subst hA1 hA2
    have e1:rd_L5 l1 (i:Int)=l1[i]:=by simp[rd_L5,hlt]
    have e2:rd_L5 l2 (i:Int)=l2[i]:=by simp[rd_L5,hlt2]
    rw[e1,Int.toNat_natCast]at hc1
    rw[e2,Int.toNat_natCast]at hc2
    rw[e1]at hl1 hr1
    rw[e2]at hl2 hr2
    have hp1:=HB1.out l1[i] (List.getElem_mem _)
    have hp2:=HB2.out l2[i] (List.getElem_mem _)
    have ht1:l1.take (i+1)=l1.take i++[l1[i]]:=List.take_succ_eq_append_getElem hlt
    have ht2:l2.take (i+1)=l2.take i++[l2[i]]:=List.take_succ_eq_append_getElem hlt2
    have hne:l1[i]≠l2[i]→l1≠l2:=fun h e=>h (by subst e;rfl)
    generalize l1[i]=p1 at*
    generalize l2[i]=p2 at*
    have HQ:=hQ (fun(W:World) (hb:Below _ _ W)=>bytes_Equal.calls B1 d1 p1 B2 d2 p2 _ W (Kd.C_below hr1 hb) hl1 (Kd.C_below hr2 hb) hl2 (show bytes_Equal.f p1 p2=some (decide (p1=p2))by unfold bytes_Equal.f;rw[strs_inj hp1 hp2]))
    have HT1:=hQ ht1
    have HT2:=hQ ht2
    have HNE:=hQ hne
    have hdl:decide ((i:Int)<(l1.length:Int))=true:=decide_eq_true (by omega)
    clear e1 e2 hl1 hr1 hl2 hr2 hp1 hp2 ht1 ht2 hne
    by_cases hpe:p1=p2
    ·rw[show decide (p1=p2)=true from decide_eq_true hpe]at HQ
     have HPE:=hQ hpe
     clear hpe
     go_wp2_with fail
     refine(HQ.out _ (Below.refl _ _)).mono ?_
     rintro e w5 ⟨rfl,hdr⟩
     have HB5:=hQ (HB.out.trans (hdr.below.mono HB.out.size))
     clear hdr HQ hc1 hc2
     go_wp2_with fail
     go_roundw
     case rel=>exact⟨i+1,by omega,by go_num,hQ (by rw[HT1.out,HT2.out,HE.out,HPE.out]),HB5⟩
     case measure=>simp[intOf];omega
    ·rw[show decide (p1=p2)=false from decide_eq_false hpe]at HQ
     have hne:=HNE.out hpe
     have HNQ:=hQ hne
     clear hpe hne
     go_wp2_with fail
     refine(HQ.out _ (Below.refl _ _)).mono ?_
     rintro e w5 ⟨rfl,hdr⟩
     have HB5:=hQ (HB.out.trans (hdr.below.mono HB.out.size))
     clear hdr HQ hc1 hc2
     go_wp2_with fail
     go_ret
     rw[show decide (l1=l2)=false from decide_eq_false HNQ.out]
     exact⟨rfl,HB5.out⟩
   ·obtain rfl:i=l1.length:=by omega
    have he:=HE.out
    have hl:=HLN.out
    rw[List.take_length,List.take_of_length_le (by omega)]at he
    have HEQ:=hQ he
    clear he hl
    go_wp2_with fail
    go_ret
    rw[show decide (l1=l2)=true from decide_eq_true HEQ.out]
    exact⟨rfl,HB.out⟩
 ·have hlq:((l1.length:Int) !=(l2.length:Int))=true:=by simp;omega
  have hld:decide ((l1.length:Int)=(l2.length:Int))=false:=decide_eq_false (by omega)
  rw[show decide (l1=l2)=false from decide_eq_false (fun e=>hlen (congrArg List.length e))]
  clear hlen
  go_enter Tryz.func48,Tryz.ntmps48
  go_wp2_with fail
  go_ret
  exact⟨rfl,Below.refl _ _⟩
def isDef (p:List Int):Bool:=match p with
 | []=>false
 |x::_=>decide (x=0)
def defS (p:List Int):ByteArray:=strOfNums p.tail
theorem defS_self (s:ByteArray):defS (defE s)=s:=by simp[defS,defE,bytes_str]
theorem take_while_at {α:Type} (f:α→Bool) (l:List α) (i:Nat) (hi:i≤l.length) (h: ∀j,(hj:j<i)→f l[j]=true) (he: ∀hl:i<l.length,f l[i]=false):l.takeWhile f=l.take i:=by
 induction l generalizing i with
 |nil=>simp
 | cons a r ih=>
  match i with
  | 0=>
   have:=he (by simp)
   rw[List.getElem_cons_zero]at this
   rw[List.takeWhile_cons_of_neg (by simp[this])]
   rfl
  | i+1=>
   have h0:=h 0 (by omega)
   rw[List.getElem_cons_zero]at h0
   rw[List.takeWhile_cons_of_pos h0,List.take_succ_cons]
   congr 1
   simp only[List.length_cons]at hi
   refine ih i (by omega) (fun j hj=> ?_) (fun hl=> ?_)
   ·have:=h (j+1) (by omega)
    rwa [List.getElem_cons_succ]at this
   ·have:=he (by simp;omega)
    rwa [List.getElem_cons_succ]at this
def defsAt (ps:List (List Int)) (at0:Nat):List (List Int):=(ps.drop at0).takeWhile isDef
abbrev rec0:Rec9:=(0,⟨#[]⟩,0,[],0,0,⟨#[]⟩)
def getF (v:Int) (T:List ByteArray) (ps:List (List Int)) (at0:Int):Rec9×Int×List ByteArray×Int:=
 if ¬(1≤v∧v≤3)then(rec0,0,T,11)
 else if at0<0∨(ps.length:Int)<at0 then(rec0,0,T,1)
 else
  let ds:=defsAt ps at0.toNat
  let n:=at0.toNat+ds.length
  if n=ps.length then(rec0,0,T,6)
  else
   let r:=(lastR v (tnewOn T (ds.map defS)) (ps.getD n [])).1
   let F:=putF v T r.1 r.2.1 r.2.2.1 r.2.2.2.1 r.2.2.2.2.1 r.2.2.2.2.2.1 r.2.2.2.2.2.2
   if F.2.2=0∧F.1=(ps.drop at0.toNat).take (ds.length+1)then(r,((n+1:Nat):Int),F.2.1,0)
   else(rec0,0,T,3)
structure RecRg (r:Rec9) (n:Nat):Prop where
 k:0≤r.1∧r.1<256
 t:r.2.1.size≤maxLen
 r2:0≤r.2.2.1∧r.2.2.1<18446744073709551616
 n:r.2.2.2.1.length≤n
 d: ∀d∈r.2.2.2.1,d.f0.size≤maxLen∧0≤d.f1∧d.f1<18446744073709551616
 o:0≤r.2.2.2.2.1∧r.2.2.2.2.1<18446744073709551616
 w:0≤r.2.2.2.2.2.1∧r.2.2.2.2.2.1<18446744073709551616
 tag:r.2.2.2.2.2.2.size≤maxLen
theorem txF_size {T:List ByteArray} (hT: ∀s∈T,s.size≤maxLen) (n:Int) (hn:0≤n):(txF T n).size≤maxLen:=by
 unfold txF
 split
 ·have h1:n.toNat<T.length:=by omega
  have e:T.getD n.toNat ⟨#[]⟩=T[n.toNat]:=by simp[h1]
  rw[e]
  exact hT _ (List.getElem_mem _)
 ·exact Nat.zero_le _
theorem textR_size {v:Int} {T:List ByteArray} {l:List Int} (hT: ∀s∈T,s.size≤maxLen) (hb: ∀x∈l,0≤x∧x<256) (hl:l.length≤1000000) (a e:Int) (ha:0≤a∧a≤l.length):(textR v T l a e).1.size≤maxLen∧0≤(textR v T l a e).2.1∧(textR v T l a e).2.1≤l.length:=by
 unfold textR txR
 split
 ·have h:=cuText_step l hb 64 a e ha
  exact⟨by have:=h.2.2.2.2.2;simp only[maxLen];omega,by omega,h.1⟩
 ·have h:=cuNum_step l hb a e ha
  exact⟨txF_size hT _ h.2.2.2.1,by show 0≤(cuNum l a e).2.1;omega,h.1⟩
theorem depR_size {v:Int} {T:List ByteArray} {l:List Int} (hT: ∀s∈T,s.size≤maxLen) (hb: ∀x∈l,0≤x∧x<256) (hl:l.length≤1000000) (a e:Int) (ha:0≤a∧a≤l.length):(depR v T l a e).1.1.size≤maxLen:=by
 unfold depR
 split
 ·exact(textR_size hT hb hl a e ha).1
 ·have h:=cuNum_step l hb a e ha
  exact txF_size hT _ (by omega)
theorem depR_place0 {v:Int} {T:List ByteArray} {l:List Int} (hT: ∀s∈T,s.size≤maxLen) (hb: ∀x∈l,0≤x∧x<256) (hl:l.length≤1000000) (a e:Int) (ha:0≤a∧a≤l.length):0≤(depR v T l a e).2.1∧(depR v T l a e).2.1≤l.length:=by
 have:=depR_place v T l hb a e ha
 omega
theorem depsL_rg {v:Int} {T:List ByteArray} {l:List Int} (hT: ∀s∈T,s.size≤maxLen) (hb: ∀x∈l,0≤x∧x<256) (hl:l.length≤1000000): ∀(f:Nat) (n a e:Int) (acc:List S129),0≤a∧a≤(l.length:Int)→(∀d∈acc,d.f0.size≤maxLen∧0≤d.f1∧d.f1<18446744073709551616)→
  (∀d∈(depsL v T l f n a e acc).1,d.f0.size≤maxLen∧0≤d.f1∧d.f1<18446744073709551616)∧(depsL v T l f n a e acc).1.length≤acc.length+f∧0≤(depsL v T l f n a e acc).2.1∧(depsL v T l f n a e acc).2.1≤(l.length:Int):=by
 intro f
 induction f with
 |zero=>intro n a e acc ha h;exact⟨h,by simp[depsL],ha.1,ha.2⟩
 | succ f ih=>
  intro n a e acc ha h
  rw[depsL]
  split
  ·have h1:=depR_place0 (v:=v) hT hb hl a e ha
   have h2:=depR_size (v:=v) hT hb hl a e ha
   have h3:=cuNum_step l hb (depR v T l a e).2.1 (depR v T l a e).2.2 h1
   have h4:=ih (n-1) (cuNum l (depR v T l a e).2.1 (depR v T l a e).2.2).2.1 (cuNum l (depR v T l a e).2.1 (depR v T l a e).2.2).2.2 (acc++[⟨(depR v T l a e).1.1,(cuNum l (depR v T l a e).2.1 (depR v T l a e).2.2).1,(depR v T l a e).1.2⟩]) ⟨by omega,h3.1⟩ (by
    intro d hd
    rcases List.mem_append.1 hd with hd|hd
    ·exact h d hd
    ·simp only[List.mem_singleton]at hd
     subst hd
     exact⟨h2,h3.2.2.2.1,h3.2.2.2.2.1⟩)
   exact⟨h4.1,by have:=h4.2.1;rw[List.length_append,List.length_singleton]at this;omega,h4.2.2⟩
  ·exact⟨h,by simp,ha.1,ha.2⟩
theorem tailR_rg {v:Int} {T:List ByteArray} {l:List Int} (hT: ∀s∈T,s.size≤maxLen) (hb: ∀x∈l,0≤x∧x<256) (hl:l.length≤1000000) {k:Int} {s:ByteArray} {x2:Int} {ds:List S129} {x4:Int} {n:Nat} (a e:Int) (ha:0≤a∧a≤(l.length:Int)) (hk:0≤k∧k<256) (hs:s.size≤maxLen) (h2:0≤x2∧x2<18446744073709551616)
  (hn:ds.length≤n) (hd: ∀d∈ds,d.f0.size≤maxLen∧0≤d.f1∧d.f1<18446744073709551616) (h4:0≤x4∧x4<18446744073709551616):RecRg (tailR v T l k s x2 ds x4 a e).1 n:=by
 have z:(0:Int)≤0∧(0:Int)<18446744073709551616:=⟨by omega,by omega⟩
 have h5:=cuNum_step l hb a e ha
 have h6:=cuNum_step l hb (cuNum l a e).2.1 (cuNum l a e).2.2 ⟨by omega,h5.1⟩
 have r5:0≤(cuNum l a e).1∧(cuNum l a e).1<18446744073709551616:=⟨h5.2.2.2.1,h5.2.2.2.2.1⟩
 unfold tailR
 split
 ·exact⟨hk,hs,h2,hn,hd,h4,z,Nat.zero_le _⟩
 ·split
  ·exact⟨hk,hs,h2,hn,hd,h4,r5,Nat.zero_le _⟩
  ·split
   ·exact⟨hk,hs,h2,hn,hd,h4,r5,txF_size hT _ (by omega)⟩
   ·exact⟨hk,hs,h2,hn,hd,h4,r5,Nat.zero_le _⟩
theorem lastR_rg {v:Int} {T:List ByteArray} {l:List Int} (hT: ∀s∈T,s.size≤maxLen) (hb: ∀x∈l,0≤x∧x<256) (hl:l.length≤1000000):RecRg (lastR v T l).1 (l.length+2):=by
 have z:(0:Int)≤0∧(0:Int)<18446744073709551616:=⟨by omega,by omega⟩
 have hk:=cuByte_rg l hb
 have hb1p:0≤(cuByte l 0 0).2.1∧(cuByte l 0 0).2.1≤(l.length:Int):=by unfold cuByte;rw[if_neg (by simp)];split<;>(dsimp only;constructor<;>omega)
 have h1:=textR_size (v:=v) hT hb hl (cuByte l 0 0).2.1 (cuByte l 0 0).2.2 hb1p
 unfold lastR
 generalize cuByte l 0 0=F1 at*
 generalize textR v T l F1.2.1 F1.2.2=F2 at*
 split
 ·unfold traceR
  have h2:=cuNum_step l hb F2.2.1 F2.2.2 h1.2
  have h3:=cuNum_step l hb (cuNum l F2.2.1 F2.2.2).2.1 (cuNum l F2.2.1 F2.2.2).2.2 ⟨by omega,h2.1⟩
  generalize cuNum l F2.2.1 F2.2.2=N1 at*
  generalize cuNum l N1.2.1 N1.2.2=N2 at*
  have h4:=depsL_rg (v:=v) hT hb hl (l.length+2) N2.1 N2.2.1 N2.2.2 [] ⟨by omega,h3.1⟩ (by simp)
  generalize depsL v T l (l.length+2) N2.1 N2.2.1 N2.2.2 []=D at*
  have h5:=cuNum_step l hb D.2.1 D.2.2 h4.2.2
  generalize cuNum l D.2.1 D.2.2=N3 at*
  exact tailR_rg hT hb hl N3.2.1 N3.2.2 ⟨by omega,h5.1⟩ hk h1.1 ⟨h2.2.2.2.1,h2.2.2.2.2.1⟩ (by have:=h4.2.1;simp only[List.length_nil]at this;omega) h4.1 ⟨h5.2.2.2.1,h5.2.2.2.2.1⟩
 ·exact⟨hk,h1.1,z,Nat.zero_le _,by simp,z,z,Nat.zero_le _⟩
theorem tput_prefix (T:List ByteArray) (s:ByteArray): ∃m,tput T s=T++m:=by
 by_cases h:s∈T
 ·exact⟨[],by rw[tput_in h];simp⟩
 ·exact⟨[s],tput_out h⟩
theorem tnewOn_prefix: ∀(ns T:List ByteArray),∃m,tnewOn T ns=T++m:=by
 intro ns
 induction ns with
 |nil=>intro T;exact⟨[],by simp[tnewOn]⟩
 |cons a r ih=>
  intro T
  obtain⟨m1,h1⟩:=tput_prefix T a
  obtain⟨m2,h2⟩:=ih (tput T a)
  exact⟨m1++m2,by rw[show tnewOn T (a::r)=tnewOn (tput T a) r from rfl,h2,h1,List.append_assoc]⟩
theorem tnewOn_more {T:List ByteArray} (hd:T.Nodup) (ns:List ByteArray):tnewOn T ((moreE T (tnewOn T ns)).map defS)=tnewOn T ns:=by
 obtain⟨m,hm⟩:=tnewOn_prefix ns T
 have hN:=tnewOn_nodup T ns hd
 unfold moreE
 rw[hm]at hN ⊢
 rw[List.drop_left,List.map_map,show(defS ∘ defE:ByteArray→ByteArray)=id from funext (fun s=>defS_self s),List.map_id]
 exact tnewOn_self T m hN
theorem numI_bytes (n:Int) (h:n<18446744073709551616): ∀x∈ints (vb n.toNat),0≤x∧x<256:=GVB.ints_bytes _ (GVB.vb_bytes _ (by omega))
theorem textE_bytes (v:Int) (T:List ByteArray) (hT:T.length≤1000000) (s:ByteArray) (h:s.size≤maxLen): ∀x∈textE v T s,0≤x∧x<256:=by
 unfold textE
 split
 ·exact blob_bytes s (by simp only[maxLen]at h;omega)
 ·exact numI_bytes _ (by have:=(atI_bd T s hT).2;omega)
theorem app_bytes {a b:List Int} (ha: ∀x∈a,0≤x∧x<256) (hb: ∀x∈b,0≤x∧x<256): ∀x∈a++b,0≤x∧x<256:=fun x hx=>(List.mem_append.1 hx).elim (ha x) (hb x)
theorem lastE_bytes (v:Int) (T:List ByteArray) (hT:T.length≤1000000) (k0:Int) (hk:0≤k0∧k0<256) (x1:ByteArray) (h1:x1.size≤maxLen) (x2:Int) (h2:x2<18446744073709551616) (l:List S129) (hn:l.length≤3010)
  (hd: ∀d∈l,d.f0.size≤maxLen∧d.f1<18446744073709551616) (x4 x5:Int) (h4:x4<18446744073709551616) (h5:x5<18446744073709551616) (x6:ByteArray):
  ∀x∈lastE v T k0 x1 x2 l x4 x5 x6,0≤x∧x<256:=by
 unfold lastE
 refine app_bytes (app_bytes (by simp;exact hk) (textE_bytes v T hT x1 h1)) ?_
 split
 ·simp
 ·unfold bodyE
  have e:ints (vb l.length)=ints (vb ((l.length:Int)).toNat):=by rw[Int.toNat_natCast]
  rw[e]
  refine app_bytes (app_bytes (app_bytes (app_bytes (app_bytes (numI_bytes _ h2) (numI_bytes _ (by omega))) ?_) (numI_bytes _ h4)) ?_) ?_
  ·intro x hx
   unfold depsE at hx
   obtain⟨y,hy,hxy⟩:=List.mem_flatten.1 hx
   obtain⟨d,hdl,rfl⟩:=List.mem_map.1 hy
   refine app_bytes ?_ (numI_bytes _ (hd d hdl).2) x hxy
   unfold depE
   split
   ·exact textE_bytes v T hT d.f0 (hd d hdl).1
   ·exact numI_bytes _ (by have:=(atI_bd T d.f0 hT).2;split<;>omega)
  ·split
   ·exact numI_bytes _ h5
   ·simp
  ·split
   ·unfold tagE
    split
    ·exact GVB.ints_bytes _ (GVB.vb_bytes _ (by omega))
    ·exact numI_bytes _ (by have:=(atI_bd T x6 hT).2;omega)
   ·simp
theorem putF_bytes (v:Int) (T:List ByteArray) (hT:T.length≤100000) (k0:Int) (hk:0≤k0∧k0<256) (x1:ByteArray) (h1:x1.size≤maxLen) (x2:Int) (h2:x2<18446744073709551616) (l:List S129) (hn:l.length≤3010)
  (hd: ∀d∈l,d.f0.size≤maxLen∧d.f1<18446744073709551616) (x4 x5:Int) (h4:x4<18446744073709551616) (h5:x5<18446744073709551616) (x6:ByteArray):
  ∀p∈(putF v T k0 x1 x2 l x4 x5 x6).1,∀x∈p,0≤x∧x<256:=by
 unfold putF
 split
 ·split
  ·rename_i hm
   have M:=may_facts hm
   have hnw:=names_few (x1:=x1) (l:=l) (x6:=x6) M.t.2 M.n (fun d hd=>(M.d d hd).2.1) M.tag.1
   obtain⟨T',hT'⟩: ∃T',(if 1<v then tnewOn T (tnew (namesL x1 l x6))else T)=T':=⟨_,rfl⟩
   have hlen:T'.length≤1000000:=by
    rw[←hT']
    split
    ·have:=tnewOn_len T (tnew (namesL x1 l x6));omega
    ·omega
   simp only[hT']
   intro p hp
   rcases List.mem_append.1 hp with hp|hp
   ·unfold moreE at hp
    obtain⟨s,_,rfl⟩:=List.mem_map.1 hp
    intro x hx
    rcases List.mem_cons.1 hx with rfl|hx
    ·exact⟨by omega,by omega⟩
    ·exact bytesOf_byte s x hx
   ·simp only[List.mem_singleton]at hp
    subst hp
    exact lastE_bytes v T' hlen k0 hk x1 h1 x2 h2 l hn hd x4 x5 h4 h5 x6
  ·simp
 ·simp
def getG (v:Int) (T:List ByteArray) (ps:List (List Int)) (a n:Nat) (r:Rec9):Rec9×Int×List ByteArray×Int:=
 if (putF v T r.1 r.2.1 r.2.2.1 r.2.2.2.1 r.2.2.2.2.1 r.2.2.2.2.2.1 r.2.2.2.2.2.2).2.2=0∧(putF v T r.1 r.2.1 r.2.2.1 r.2.2.2.1 r.2.2.2.2.1 r.2.2.2.2.2.1 r.2.2.2.2.2.2).1=(ps.take (n+1)).drop a
 then(r,((n+1:Nat):Int),(putF v T r.1 r.2.1 r.2.2.1 r.2.2.2.1 r.2.2.2.2.1 r.2.2.2.2.2.1 r.2.2.2.2.2.2).2.1,0)else(rec0,0,T,3)
theorem getF_at {v:Int} {T:List ByteArray} {ps:List (List Int)} {a n:Nat} (hv:1≤v∧v≤3) (ha:a≤n) (hn:n≤ps.length) (hd: ∀j,a≤j→j<n→isDef (ps.getD j [])=true) (he:n<ps.length→isDef (ps.getD n [])=false):
  getF v T ps (a:Int)=if n=ps.length then(rec0,0,T,6)else getG v T ps a n (lastR v (tnewOn T (((ps.drop a).take (n-a)).map defS)) (ps.getD n [])).1:=by
 have hds:defsAt ps a=(ps.drop a).take (n-a):=by
  unfold defsAt
  refine take_while_at isDef _ _ (by rw[List.length_drop];omega) (fun j hj=> ?_) (fun hl=> ?_)
  ·have:=hd (a+j) (by omega) (by omega)
   rw[List.getElem_drop]
   simpa [show a+j<ps.length by omega]using this
  ·rw[List.length_drop]at hl
   have:=he (by omega)
   rw[List.getElem_drop]
   have e:a+(n-a)=n:=by omega
   simp only[e]
   simpa [show n<ps.length by omega]using this
 have hlen:(defsAt ps a).length=n-a:=by rw[hds,List.length_take,List.length_drop];omega
 have e1:a+(n-a)=n:=by omega
 unfold getF
 rw[if_neg (fun h=>h hv),if_neg (by omega)]
 simp only[Int.toNat_natCast]
 rw[hlen,hds,e1]
 split
 ·rfl
 ·unfold getG
  rw[List.drop_take,show n+1-a=n-a+1 by omega]
theorem getF_ver {v:Int} (T:List ByteArray) (ps:List (List Int)) (at0:Int) (hv: ¬(1≤v∧v≤3)):getF v T ps at0=(rec0,0,T,11):=by unfold getF;rw[if_pos hv]
theorem getF_arg {v:Int} (T:List ByteArray) (ps:List (List Int)) (at0:Int) (hv:1≤v∧v≤3) (h:at0<0∨(ps.length:Int)<at0):getF v T ps at0=(rec0,0,T,1):=by unfold getF;rw[if_neg (fun h=>h hv),if_pos h]
theorem blk_put7 {w:World} {g:Nat} {t:TypeId} {a0 a1 a2 a3 a4 a5 a6:Value} (h:w.heap[g]? =some (.cells #[a0,a1,a2,a3,a4,a5,a6] t (0,0))) (v0 v1 v2 v3 v4 v5 v6:Value):
  (((((((w.setCell ⟨g,0,none⟩ v0).setCell ⟨g,1,none⟩ v1).setCell ⟨g,2,none⟩ v2).setCell ⟨g,3,none⟩ v3).setCell ⟨g,4,none⟩ v4).setCell ⟨g,5,none⟩ v5).setCell ⟨g,6,none⟩ v6).heap[g]? =some (.cells #[v0,v1,v2,v3,v4,v5,v6] t (0,0)):=by
 have h0:=blk_put (cs':=#[v0,a1,a2,a3,a4,a5,a6]) h 0 v0 rfl
 have h1:=blk_put (cs':=#[v0,v1,a2,a3,a4,a5,a6]) h0 1 v1 rfl
 have h2:=blk_put (cs':=#[v0,v1,v2,a3,a4,a5,a6]) h1 2 v2 rfl
 have h3:=blk_put (cs':=#[v0,v1,v2,v3,a4,a5,a6]) h2 3 v3 rfl
 have h4:=blk_put (cs':=#[v0,v1,v2,v3,v4,a5,a6]) h3 4 v4 rfl
 have h5:=blk_put (cs':=#[v0,v1,v2,v3,v4,v5,a6]) h4 5 v5 rfl
 have h6:=blk_put (cs':=#[v0,v1,v2,v3,v4,v5,v6]) h5 6 v6 rfl
 exact h6
theorem below_put7 {B:Nat} {w0 w:World} {g:Nat} (h:Below B w0 w) (hg:B≤g) (v0 v1 v2 v3 v4 v5 v6:Value):
  Below B w0 (((((((w.setCell ⟨g,0,none⟩ v0).setCell ⟨g,1,none⟩ v1).setCell ⟨g,2,none⟩ v2).setCell ⟨g,3,none⟩ v3).setCell ⟨g,4,none⟩ v4).setCell ⟨g,5,none⟩ v5).setCell ⟨g,6,none⟩ v6):=
 ((((((h.setCell (p:=⟨g,0,none⟩) hg v0).setCell (p:=⟨g,1,none⟩) hg v1).setCell (p:=⟨g,2,none⟩) hg v2).setCell (p:=⟨g,3,none⟩) hg v3).setCell (p:=⟨g,4,none⟩) hg v4).setCell (p:=⟨g,5,none⟩) hg v5).setCell (p:=⟨g,6,none⟩) hg v6
theorem kp_put7 (w:World) (g:Nat) (v0 v1 v2 v3 v4 v5 v6:Value):
  Kp w (((((((w.setCell ⟨g,0,none⟩ v0).setCell ⟨g,1,none⟩ v1).setCell ⟨g,2,none⟩ v2).setCell ⟨g,3,none⟩ v3).setCell ⟨g,4,none⟩ v4).setCell ⟨g,5,none⟩ v5).setCell ⟨g,6,none⟩ v6) (fun k=>k=g):=
 (((((((Kp.refl w (fun k=>k=g)).setCell (p:=⟨g,0,none⟩) (.inl rfl) v0).setCell (p:=⟨g,1,none⟩) (.inl rfl) v1).setCell (p:=⟨g,2,none⟩) (.inl rfl) v2).setCell (p:=⟨g,3,none⟩) (.inl rfl) v3).setCell (p:=⟨g,4,none⟩) (.inl rfl) v4).setCell (p:=⟨g,5,none⟩) (.inl rfl) v5).setCell (p:=⟨g,6,none⟩) (.inl rfl) v6
theorem rlast_any {w0 W:World} {S:Nat→Prop} {g t:Nat} {T:List ByteArray} {l:List Int} (v:Int) (hv:1≤v∧v≤3) (h:Rd w0 W S g t T l 0 0) (hb: ∀x∈l,0≤x∧x<256) (hl:l.length≤1000000):
  Calls Tryz.prog 47 #[.agg #[.pointer (some ⟨g,0,none⟩),.pointer (some ⟨t,0,none⟩)],.int .i64 v] W (LastPost W g (lastR v T l).1):=by
 have hv3:v=1∨v=2∨v=3:=by omega
 rcases hv3 with rfl|rfl|rfl
 ·exact rlast1_any h hb hl
 ·exact rlast2_any h hb hl
 ·exact rlast3_any h hb hl
theorem newAt0 (l:List Int):newAt l 0=0:=by unfold newAt;split<;>rfl
theorem newE0 (l:List Int):newE l 0=0:=by unfold newE;rw[if_neg (by omega)]
def GetPost (W:World) (S:Nat→Prop) (t:Nat) (F:Rec9×Int×List ByteArray×Int) (e:Ending) (W':World):Prop:=
 ∃dv S',e= .returned (.tuple #[.agg #[.int .i64 F.1.1,.string F.1.2.1,.int .u64 F.1.2.2.1,dv,.int .u64 F.1.2.2.2.2.1,.int .u64 F.1.2.2.2.2.2.1,.string F.1.2.2.2.2.2.2],.int .i64 F.2.1,.int .i64 F.2.2.2])∧
  Tab W' S' t F.2.2.1∧(∀k,S' k→S k∨W.heap.size≤k)∧Kp W W' S∧Kd.R k129 129 W' W.heap.size (fun k=>¬S' k) dv F.1.2.2.2.1
theorem GetPost.early {W W':World} {S:Nat→Prop} {t:Nat} {T:List ByteArray} (h:Tab W S t T) (hb:Below W.heap.size W W') (ec:Int):
  GetPost W S t (rec0,0,T,ec) (.returned (.tuple #[.agg #[.int .i64 0,.string ⟨#[]⟩,.int .u64 0,.slice none 0 0,.int .u64 0,.int .u64 0,.string ⟨#[]⟩],.int .i64 0,.int .i64 ec])) W':=
 ⟨.slice none 0 0,S,rfl,h.keep (Kp.of_below hb (fun _=>False)) (fun _ _ h=>h),fun k hk=> .inl hk,Kp.of_below hb _,Kd.R_nil _ _ _ _ _⟩
theorem sget_ver {W:World} {S:Nat→Prop} {t:Nat} {T:List ByteArray} (h:Tab W S t T) (v:Int) (A:Option Addr) (c:Nat) (ps:List (List Int)) (at0:Int) (hv: ¬(1≤v∧v≤3)):
  Calls Tryz.prog 24 #[.int .i64 v,.pointer (some ⟨t,0,none⟩),.slice A ps.length c,.int .i64 at0] W (GetPost W S t (getF v T ps at0)):=by
 rw[getF_ver T ps at0 hv]
 obtain⟨W1,hW1⟩:=eX (W.alloc (.cells #[.int .i64 0,.string ⟨#[]⟩,.int .u64 0,.slice none 0 0,.int .u64 0,.int .u64 0,.string ⟨#[]⟩] 49))
 have hb1:Below W.heap.size W W1:=by rw[←hW1];exact(Below.refl _ _).alloc (Nat.le_refl _) _
 have hk1:W1.heap[W.heap.size]? =some (.cells #[.int .i64 0,.string ⟨#[]⟩,.int .u64 0,.slice none 0 0,.int .u64 0,.int .u64 0,.string ⟨#[]⟩] 49 (0,0)):=by rw[←hW1];exact heap_new _ _
 have hs1:W1.heap.size=W.heap.size+1:=by rw[←hW1,heap_size_alloc]
 obtain⟨b8,hb8⟩:=eX (W.heap.size)
 rw[hb8]at hk1 hs1
 have HH:=hQ h
 have HB1:=hQ hb1
 have HK1:=hQ hk1
 have HW1:=hQ hW1
 have HB8:=hQ hb8
 have HS1:=hQ hs1
 have HU:=hQ Tryz.underlying49
 have HKN:=hQ (known9_any v W1)
 rw[show decide (1≤v∧v≤3)=false from decide_eq_false hv]at HKN
 clear h hb1 hk1 hs1 hb8 hW1 hv
 go_enter Tryz.func24,Tryz.ntmps24
 go_wp2_with fail
 rw[HW1.out,HB8.out]
 refine HKN.out.mono ?_
 rintro e w9 ⟨rfl,rfl⟩
 obtain⟨c0,cf0,c1,cf1,c2,cf2,c3,cf3,c4,cf4,c5,cf5,c6,cf6⟩:=facts7f HK1.out
 go_wp2_with fail
 refine bodyPost_ret (results_ctt rfl _ _ b8 49 #[_,_,_,_,_,_,_] (0,0) _ rfl (blk_put7 HK1.out _ _ _ _ _ _ _) HU.out rfl (by kernel_rfl)) rfl ?_
 have HBE:=below_put7 (g:=b8) HB1.out (by have:=HB8.out;omega) (.int .i64 0) (.string ⟨#[]⟩) (.int .u64 0) (.slice none 0 0) (.int .u64 0) (.int .u64 0) (.string ⟨#[]⟩)
 exact GetPost.early HH.out HBE 11
theorem sget_arg1 {W:World} {S:Nat→Prop} {t:Nat} {T:List ByteArray} (h:Tab W S t T) (v:Int) (A:Option Addr) (c:Nat) (ps:List (List Int)) (at0:Int) (hv:1≤v∧v≤3) (h0:at0<0):
  Calls Tryz.prog 24 #[.int .i64 v,.pointer (some ⟨t,0,none⟩),.slice A ps.length c,.int .i64 at0] W (GetPost W S t (getF v T ps at0)):=by
 rw[getF_arg T ps at0 hv (by omega)]
 obtain⟨W1,hW1⟩:=eX (W.alloc (.cells #[.int .i64 0,.string ⟨#[]⟩,.int .u64 0,.slice none 0 0,.int .u64 0,.int .u64 0,.string ⟨#[]⟩] 49))
 have hb1:Below W.heap.size W W1:=by rw[←hW1];exact(Below.refl _ _).alloc (Nat.le_refl _) _
 have hk1:W1.heap[W.heap.size]? =some (.cells #[.int .i64 0,.string ⟨#[]⟩,.int .u64 0,.slice none 0 0,.int .u64 0,.int .u64 0,.string ⟨#[]⟩] 49 (0,0)):=by rw[←hW1];exact heap_new _ _
 have hs1:W1.heap.size=W.heap.size+1:=by rw[←hW1,heap_size_alloc]
 obtain⟨b8,hb8⟩:=eX (W.heap.size)
 rw[hb8]at hk1 hs1
 have HH:=hQ h
 have HB1:=hQ hb1
 have HK1:=hQ hk1
 have HW1:=hQ hW1
 have HB8:=hQ hb8
 have HS1:=hQ hs1
 have HU:=hQ Tryz.underlying49
 have HKN:=hQ (known9_any v W1)
 rw[show decide (1≤v∧v≤3)=true from decide_eq_true hv]at HKN
 have d0:decide (at0<0)=true:=decide_eq_true (by omega)
 clear h hb1 hk1 hs1 hb8 hW1 hv h0
 go_enter Tryz.func24,Tryz.ntmps24
 go_wp2_with fail
 rw[HW1.out,HB8.out]
 refine HKN.out.mono ?_
 rintro e w9 ⟨rfl,rfl⟩
 obtain⟨c0,cf0,c1,cf1,c2,cf2,c3,cf3,c4,cf4,c5,cf5,c6,cf6⟩:=facts7f HK1.out
 go_wp2_with fail
 refine bodyPost_ret (results_ctt rfl _ _ b8 49 #[_,_,_,_,_,_,_] (0,0) _ rfl (blk_put7 HK1.out _ _ _ _ _ _ _) HU.out rfl (by kernel_rfl)) rfl ?_
 have HBE:=below_put7 (g:=b8) HB1.out (by have:=HB8.out;omega) (.int .i64 0) (.string ⟨#[]⟩) (.int .u64 0) (.slice none 0 0) (.int .u64 0) (.int .u64 0) (.string ⟨#[]⟩)
 exact GetPost.early HH.out HBE 1
theorem sget_arg2 {W:World} {S:Nat→Prop} {t:Nat} {T:List ByteArray} (h:Tab W S t T) (v:Int) (A:Option Addr) (c:Nat) (ps:List (List Int)) (at0:Int) (hv:1≤v∧v≤3) (h0:0≤at0∧(ps.length:Int)<at0):
  Calls Tryz.prog 24 #[.int .i64 v,.pointer (some ⟨t,0,none⟩),.slice A ps.length c,.int .i64 at0] W (GetPost W S t (getF v T ps at0)):=by
 rw[getF_arg T ps at0 hv (by omega)]
 obtain⟨W1,hW1⟩:=eX (W.alloc (.cells #[.int .i64 0,.string ⟨#[]⟩,.int .u64 0,.slice none 0 0,.int .u64 0,.int .u64 0,.string ⟨#[]⟩] 49))
 have hb1:Below W.heap.size W W1:=by rw[←hW1];exact(Below.refl _ _).alloc (Nat.le_refl _) _
 have hk1:W1.heap[W.heap.size]? =some (.cells #[.int .i64 0,.string ⟨#[]⟩,.int .u64 0,.slice none 0 0,.int .u64 0,.int .u64 0,.string ⟨#[]⟩] 49 (0,0)):=by rw[←hW1];exact heap_new _ _
 have hs1:W1.heap.size=W.heap.size+1:=by rw[←hW1,heap_size_alloc]
 obtain⟨b8,hb8⟩:=eX (W.heap.size)
 rw[hb8]at hk1 hs1
 have HH:=hQ h
 have HB1:=hQ hb1
 have HK1:=hQ hk1
 have HW1:=hQ hW1
 have HB8:=hQ hb8
 have HS1:=hQ hs1
 have HU:=hQ Tryz.underlying49
 have HKN:=hQ (known9_any v W1)
 rw[show decide (1≤v∧v≤3)=true from decide_eq_true hv]at HKN
 have d0:decide (at0<0)=false:=decide_eq_false (by omega)
 have d1:decide ((ps.length:Int)<at0)=true:=decide_eq_true (by omega)
 clear h hb1 hk1 hs1 hb8 hW1 hv h0
 go_enter Tryz.func24,Tryz.ntmps24
 go_wp2_with fail
 rw[HW1.out,HB8.out]
 refine HKN.out.mono ?_
 rintro e w9 ⟨rfl,rfl⟩
 obtain⟨c0,cf0,c1,cf1,c2,cf2,c3,cf3,c4,cf4,c5,cf5,c6,cf6⟩:=facts7f HK1.out
 go_wp2_with fail
 refine bodyPost_ret (results_ctt rfl _ _ b8 49 #[_,_,_,_,_,_,_] (0,0) _ rfl (blk_put7 HK1.out _ _ _ _ _ _ _) HU.out rfl (by kernel_rfl)) rfl ?_
 have HBE:=below_put7 (g:=b8) HB1.out (by have:=HB8.out;omega) (.int .i64 0) (.string ⟨#[]⟩) (.int .u64 0) (.slice none 0 0) (.int .u64 0) (.int .u64 0) (.string ⟨#[]⟩)
 exact GetPost.early HH.out HBE 1
theorem R_above' {α:Type} {d:Kd α} {e:Nat} {w w':World} {base g:Nat} {ok:Nat→Prop} {v:Value} {xs:List α} (h:d.R e w base (fun k=>ok k∧base≤k∧k<w.heap.size∧∃q,q∈e::d.E∧∃cells,w.heap[k]? =some (.cells cells q (0,0))) v xs) (hk:Kp w w' (fun k=>k=g)) (hg:g<base:=by omega):d.R e w' base (fun k=>ok k∧base≤k) v xs:=
 Kd.R_mono (Kd.R_step h (fun k hk' hlt=>hk.block k hlt (fun e=>by have:=hk'.2.1;omega))) (fun k hk=>⟨hk.1,hk.2.1⟩)
theorem heap_put7 (w:World) {g k:Nat} (h:k≠g) (v0 v1 v2 v3 v4 v5 v6:Value):
  (((((((w.setCell ⟨g,0,none⟩ v0).setCell ⟨g,1,none⟩ v1).setCell ⟨g,2,none⟩ v2).setCell ⟨g,3,none⟩ v3).setCell ⟨g,4,none⟩ v4).setCell ⟨g,5,none⟩ v5).setCell ⟨g,6,none⟩ v6).heap[k]? =w.heap[k]? :=by
 rw[Below.heap_setCell _ _ _ _ h,Below.heap_setCell _ _ _ _ h,Below.heap_setCell _ _ _ _ h,Below.heap_setCell _ _ _ _ h,Below.heap_setCell _ _ _ _ h,Below.heap_setCell _ _ _ _ h,Below.heap_setCell _ _ _ _ h]
theorem sget_ok {W:World} {S:Nat→Prop} {t:Nat} {T:List ByteArray} (h:Tab W S t T) (v:Int) (A:Option Addr) (c:Nat) (ps:List (List Int)) (a:Nat) (hv:1≤v∧v≤3) (ha:a≤ps.length) (hps: ∀W',Kp W W' S→Kd.C kRows W' A ps.length ps) (hc:ps.length≤c) (hbt: ∀p∈ps,p.length≤3000∧∀x∈p,0≤x∧x<256) (hT:T.length≤50000) (hn:ps.length≤10000):
  Calls Tryz.prog 24 #[.int .i64 v,.pointer (some ⟨t,0,none⟩),.slice A ps.length c,.int .i64 (a:Int)] W (GetPost W S t (getF v T ps (a:Int))):=by
 obtain⟨W1,hW1⟩:=eX (W.alloc (.cells #[.int .i64 0,.string ⟨#[]⟩,.int .u64 0,.slice none 0 0,.int .u64 0,.int .u64 0,.string ⟨#[]⟩] 49))
 have hb1:Below W.heap.size W W1:=by rw[←hW1];exact(Below.refl _ _).alloc (Nat.le_refl _) _
 have hk1:W1.heap[W.heap.size]? =some (.cells #[.int .i64 0,.string ⟨#[]⟩,.int .u64 0,.slice none 0 0,.int .u64 0,.int .u64 0,.string ⟨#[]⟩] 49 (0,0)):=by rw[←hW1];exact heap_new _ _
 have hs1:W1.heap.size=W.heap.size+1:=by rw[←hW1,heap_size_alloc]
 obtain⟨b8,hb8⟩:=eX (W.heap.size)
 rw[hb8]at hk1 hs1
 have HH:=hQ h
 have HB1:=hQ hb1
 have HK1:=hQ hk1
 have HW1:=hQ hW1
 have HB8:=hQ hb8
 have HS1:=hQ hs1
 have HU:=hQ Tryz.underlying49
 have HCP:=hQ (copy_any (h.keep (Kp.of_below hb1 (fun _=>False)) (fun _ _ h=>h)) (by omega))
 have HKN:=hQ (known9_any v W1)
 rw[show decide (1≤v∧v≤3)=true from decide_eq_true hv]at HKN
 obtain⟨g1,hg1⟩:=eX (W1.heap.size)
 rw[hg1]at HCP
 have HV:=hQ hv
 have HPS:=hQ hps
 have HBT:=hQ hbt
 have HG1:=hQ hg1
 have d0:decide ((a:Int)<0)=false:=decide_eq_false (by omega)
 have d1:decide ((ps.length:Int)<(a:Int))=false:=decide_eq_false (by omega)
 clear h hb1 hk1 hs1 hb8 hW1 hv hps hbt hg1
 go_enter Tryz.func24,Tryz.ntmps24
 go_wp2_with fail
 rw[HW1.out,HB8.out]
 refine HKN.out.mono ?_
 rintro e w9 ⟨rfl,rfl⟩
 go_wp2_with fail
 refine HCP.out.mono ?_
 rintro e w2 ⟨rfl,hN⟩
 have HN0:=hQ hN
 clear hN d0 d1 HKN HCP
 go_wp2_with fail
 go_loopw [9] (fun u9 wr=>∃(n:Nat),a≤n∧n≤ps.length∧u9= .int .i64 (n:Int)∧Hid (∀j,a≤j→j<n→isDef (ps.getD j [])=true)∧Hid (NewTab W1 wr g1 (tnewOn T (((ps.drop a).take (n-a)).map defS)))) (fun v _=>ps.length-(intOf v).toNat)
 case atStart=>exact⟨a,Nat.le_refl _,ha,rfl,hQ (fun j h1 h2=>by omega),hQ (by rw[Nat.sub_self,List.take_zero];exact HN0.out)⟩
 case round=>
  obtain⟨n,hna,hnl,rfl,HD,HN⟩:=hrel
  by_cases hlt:n<ps.length
  ·have hC:=HPS.out wr (Kp.of_below (HB1.out.trans ((HN.out.below).mono HB1.out.size)) _)
   obtain⟨ad1,B1,d1,hA1,hc1,hl1,hr1⟩:=at_L5 hC (n:Int) (by omega) (by omega)
   subst hA1
   have e1:rd_L5 ps (n:Int)=ps[n]:=by simp[rd_L5,hlt]
   rw[e1,Int.toNat_natCast]at hc1
   rw[e1]at hl1 hr1
   have hbp:=HBT.out ps[n] (List.getElem_mem _)
   have hgd:ps.getD n []=ps[n]:=by simp[hlt]
   have hG:isDef ps[n]=false→getF v T ps (a:Int)=getG v T ps a n (lastR v (tnewOn T (((ps.drop a).take (n-a)).map defS)) ps[n]).1:=fun hd=>by
    rw[getF_at HV.out hna hnl HD.out (fun _=>by rw[hgd];exact hd),if_neg (by omega),hgd]
   have htk:(ps.drop a).take (n+1-a)=(ps.drop a).take (n-a)++[ps[n]]:=by
    have h1:n-a<(ps.drop a).length:=by rw[List.length_drop];omega
    rw[show n+1-a=n-a+1 by omega,List.take_succ_eq_append_getElem h1,List.getElem_drop]
    congr 3
    omega
   have hdn:isDef ps[n]=true→∀j,a≤j→j<n+1→isDef (ps.getD j [])=true:=fun hd j h1 h2=>by
    rcases Nat.lt_or_ge j n with h3|h3
    ·exact HD.out j h1 h3
    ·obtain rfl:j=n:=by omega
     rw[hgd];exact hd
   clear hgd e1
   generalize ps[n]=p at*
   have hdl:decide ((n:Int)<(ps.length:Int))=true:=decide_eq_true (by omega)
   by_cases hp0:0<p.length
   ·obtain ⟨ad2,he2,hcell2⟩:=Kd.at_int hr1 (0:Int) (by omega) (by omega)
    subst he2
    have had:ad2.add 0=ad2:=by obtain⟨b,o,i⟩:=ad2;cases i<;>simp[Addr.add]
    replace hcell2:wr.cell? ad2=some (.int .u8 (rd p 0)):=by
     have h9:wr.cell? (ad2.add 0)=some (.int .u8 (rd p 0)):=hcell2
     rwa [had]at h9
    clear had
    have hpd:decide (0<(p.length:Int))=true:=decide_eq_true (by omega)
    have hdef:isDef p=decide (rd p 0=0):=by
     cases p with
     |nil=>simp at hp0
     |cons x r=>simp[isDef,rd]
    by_cases hx:rd p 0=0
    ·rw [hx]at hcell2
     rw[decide_eq_true hx]at hdef
     have hdt:decide (rd p 0=0)=true:=decide_eq_true hx
     have hCd:=Kd.C_drop (c:=d1) (m:=1) hr1 (by omega) hl1
     have hcv:=Kd.C_string (P:=Tryz.prog) (c:=d1-1) Tryz.underlying22 Tryz.underlying5 Tryz.underlying9 hCd
     rw[show(p.drop 1).length=p.length-1 from List.length_drop,List.drop_one]at hcv
     simp only[show(Kd.int .u8).sz=1 from rfl,Nat.mul_one]at hcv
     obtain⟨S1,hT1,hS1,hbl⟩:=HN.out
     obtain⟨s,hs⟩:=eX (strOfNums p.tail)
     rw[hs]at hcv
     have hLn:=tnewOn_len T (((ps.drop a).take (n-a)).map defS)
     rw[List.length_map,List.length_take]at hLn
     have hsz:s.size≤maxLen:=by rw[←hs,strOfNums_size,List.length_tail];have:=hbp.1;simp only[maxLen];omega
     have HID:=hQ (id_any hT1 s hsz (by omega))
     have hput:tput (tnewOn T (((ps.drop a).take (n-a)).map defS)) s=tnewOn T (((ps.drop a).take (n+1-a)).map defS):=by
      rw[htk,List.map_append,List.map_singleton,tnewOn_snoc,show defS p=s from hs]
     rw[hput]at HID
     have HDN:=hQ (hdn hdef)
     have HS1':=hQ hS1
     have HBL:=hQ hbl
     have hdle:1≤d1:=by omega
     have hplen:p.length≤3000:=hbp.1
     clear hG htk hdn hdef hT1 hS1 hbl hs hLn hsz hput hCd hr1 hC hbp HN0
     by_cases hd11:d1=1
     ·rw [if_pos hd11]at hcv
      subst hd11
      have hcv:(convert 22 9 (.slice (some ad2) 0 0)).run Tryz.prog wr= .ok (.string s) wr:=by
       have h9:p.length-1=0:=by omega
       rw[h9]at hcv
       exact hcv
      go_wp2_with fail
      refine HID.out.mono ?_
      rintro e w5 ⟨rfl,hd⟩
      have HN5:=hQ (NewTab.put HS1'.out HBL.out hd)
      clear hd HID hcv
      go_wp2_with fail
      go_roundw
      case rel=>exact⟨n+1,by omega,by omega,by go_num,HDN,HN5⟩
      case measure=>simp[intOf];omega
     ·rw[if_neg hd11]at hcv
      have hcv:(convert 22 9 (.slice (some ⟨ad2.block,ad2.off+1,none⟩) (p.length-1) (d1-1))).run Tryz.prog wr= .ok (.string s) wr:=hcv
      go_wp2_with fail
      refine HID.out.mono ?_
      rintro e w5 ⟨rfl,hd⟩
      have HN5:=hQ (NewTab.put HS1'.out HBL.out hd)
      clear hd HID hcv
      go_wp2_with fail
      go_roundw
      case rel=>exact⟨n+1,by omega,by omega,by go_num,HDN,HN5⟩
      case measure=>simp[intOf];omega
    ·rw [decide_eq_false hx]at hdef
     have hdt:decide (rd p 0=0)=false:=decide_eq_false hx
     have hqf:decide ((n:Int)=(ps.length:Int))=false:=decide_eq_false (by omega)
     have HGQ:=hQ (hG hdef)
     obtain⟨L,hLL⟩:=eX (tnewOn T (((ps.drop a).take (n-a)).map defS))
     rw[hLL]at HN HGQ
     obtain⟨S1,hT1,hS1,hbl⟩:=HN.out
     have hwd:=hT1.wide
     have hrg:=lastR_rg (v:=v) (T:=L) hwd hbp.2 (by omega)
     have HCN:=hQ (cnew_any (some ad2) d1 p 0 wr hr1 hl1 (by omega))
     have HT1:=hQ hT1
     have HS1':=hQ hS1
     have HBL:=hQ hbl
     have HBP:=hQ hbp
     have hplen:p.length≤3000:=hbp.1
     have haq:a≤n+1:=by omega
     have hqn:n+1≤ps.length:=by omega
     have hqc:n+1≤c:=by omega
     obtain⟨R,hR⟩:=eX ((lastR v L p).1)
     rw[hR]at hrg HGQ
     have HRR:=hQ hR
     obtain⟨k0,x1,x2,l,x4,x5,x6⟩:=R
     have HRG:=hQ hrg
     clear hT1 hS1 hbl hwd hrg hbp hLL hR hG hl1 hr1 hC htk hdn hdef
     go_wp2_with fail
     refine HCN.out.mono ?_
     rintro en w3 ⟨g,w0,rfl,hbA,hcu,hbB,_,_⟩
     rw[newAt0 p,newE0 p]at hcu
     have hg0:w0.heap.size≤g:=by obtain⟨_,_,_,h,_⟩:=hcu;exact h
     have hbw:Below wr.heap.size wr w3:=hbA.trans (hbB.mono hbA.size)
     have hRd:Rd w0 w3 S1 g g1 L p 0 0:=⟨hcu,hbB,HT1.out.keep (Kp.of_below hbw (fun _=>False)) (fun _ _ h=>h),fun hs=>by have:=HT1.out.lt _ hs;have:=hbA.size;omega⟩
     have hb3:Below W1.heap.size W1 w3:=HBL.out.trans (hbw.mono HBL.out.size)
     have hgb:W1.heap.size≤g:=by have:=HBL.out.size;have:=hbA.size;omega
     have HRL:=hQ (rlast_any v HV.out hRd HBP.out.2 (by omega))
     rw[HRR.out]at HRL
     have HB3:=hQ hb3
     have HGB:=hQ hgb
     clear hRd hcu hbA hbB hbw hb3 hgb hg0 HCN
     go_wp2_with fail
     refine HRL.out.mono ?_
     rintro en w4 ⟨dv,rfl,hR4,hk4⟩
     dsimp only at hR4
     obtain⟨A4,c4,rfl⟩:=Kd.R_slice hR4
     dsimp only
     have hb4:Below W1.heap.size W1 w4:=(Kp.trans (Kp.of_below HB3.out (fun k=>k=g)) hk4 (fun _ h=> .inl h)).to_below (fun k hk=>by have:=HGB.out;omega)
     have hk48:w4.heap[b8]? =some (.cells #[.int .i64 0,.string ⟨#[]⟩,.int .u64 0,.slice none 0 0,.int .u64 0,.int .u64 0,.string ⟨#[]⟩] 49 (0,0)):=(hb4.block b8 (by have:=HS1.out;omega)).trans HK1.out
     obtain⟨w5,hw5⟩:=eX ((((((((w4.setCell ⟨b8,0,none⟩ (.int .i64 k0)).setCell ⟨b8,1,none⟩ (.string x1)).setCell ⟨b8,2,none⟩ (.int .u64 x2)).setCell ⟨b8,3,none⟩ (.slice A4 l.length c4)).setCell ⟨b8,4,none⟩ (.int .u64 x4)).setCell ⟨b8,5,none⟩ (.int .u64 x5)).setCell ⟨b8,6,none⟩ (.string x6)))
     have hk58:w5.heap[b8]? =some (.cells #[.int .i64 k0,.string x1,.int .u64 x2,.slice A4 l.length c4,.int .u64 x4,.int .u64 x5,.string x6] 49 (0,0)):=by rw[←hw5];exact blk_put7 hk48 _ _ _ _ _ _ _
     have hb40:Below b8 W w4:=(by have:=HB8.out;subst this;exact HB1.out.trans (hb4.mono HB1.out.size))
     have hb5:Below b8 W w5:=by rw[←hw5];exact below_put7 hb40 (Nat.le_refl _) _ _ _ _ _ _ _
     have hR5:Kd.R k129 129 w5 (b8+1) (fun _=>True) (.slice A4 l.length c4) l:=by
      rw[←hw5]
      exact R_above (Kd.R_lower hR4 (by have:=HB3.out.size;have:=HS1.out;omega)) (fun q hq _=>heap_put7 _ (by omega) _ _ _ _ _ _ _)
     have hT5:Tab w5 S t T:=HH.out.keep (Kp.of_below (HB8.out ▸ hb5) (fun _=>False)) (fun _ _ h=>h)
     have HCP2:=hQ (copy_any hT5 (by omega))
     have HK48:=hQ hk48
     have HW5:=hQ hw5
     have HK58:=hQ hk58
     have HB5:=hQ hb5
     have HR5:=hQ hR5
     obtain⟨g2,hg2⟩:=eX (w5.heap.size)
     rw[hg2]at HCP2
     have HG2:=hQ hg2
     clear hb4 hk48 hw5 hk58 hb40 hb5 hR5 hT5 hR4 hk4 hg2 HRL HB3 HGB HRR
     obtain⟨c0,cf0,c1,cf1,c2,cf2,c3,cf3,c4,cf4,c5,cf5,c6,cf6⟩:=facts7f HK48.out
     go_wp2_with fail
     rw[HW5.out]
     clear c0 cf0 c1 cf1 c2 cf2 c3 cf3 c4 cf4 c5 cf5 c6 cf6
     refine HCP2.out.mono ?_
     rintro en w6 ⟨rfl,hN6⟩
     obtain⟨S2,hT2,hS2,hb6⟩:=hN6
     rw[HG2.out]at hS2
     have h5b:b8+1≤g2:=by have:=HG2.out;have:=blk_lt HK58.out;omega
     have hR6:Kd.R k129 129 w6 (b8+1) (fun k=>k<g2) (.slice A4 l.length c4) l:=Kd.R_below (Kd.R_mono (Kd.R_bound HR5.out) (fun k hk=>by have:=hk.2.2.1;have:=HG2.out;omega)) hb6
     have hk68:=blk_below HK58.out hb6
     have hc4:=(Kd.R_reads' hR6).2.1
     have hb68:Below b8 W w6:=HB5.out.trans (hb6.mono (Nat.le_of_lt (blk_lt HK58.out)))
     have HPT:=hQ (sput_any v hT2 k0 x1 x2 A4 c4 l x4 x5 x6 (fun W' hk=>(Kd.R_reads' (Kd.R_step hR6 (fun k hk' hlt=>hk.block k hlt (fun h2=>by have:=hS2 k h2;omega)))).2.2) hc4 ⟨by have:=HRG.out.n;dsimp only at this;omega,HRG.out.t,HRG.out.tag,fun d hd=>(HRG.out.d d hd).1⟩ HRG.out.r2 HRG.out.o HRG.out.w (fun d hd=>(HRG.out.d d hd).2) (by omega))
     have hpby:=putF_bytes v T (by omega) k0 HRG.out.k x1 HRG.out.t x2 HRG.out.r2.2 l (by have:=HRG.out.n;dsimp only at this;omega) (fun d hd=>⟨(HRG.out.d d hd).1,(HRG.out.d d hd).2.2⟩) x4 x5 HRG.out.o.2 HRG.out.w.2 x6
     have HGE:Hid (getF v T ps (a:Int)=getG v T ps a n (k0,x1,x2,l,x4,x5,x6)):=hQ HGQ.out
     have hge:=HGE.out
     unfold getG at hge
     dsimp only at hge
     have HPT2:=hQ (fun(W':World) (h9:Tab W' S t T) (hR:Kd.R k129 129 W' (b8+1) (fun k=>k<g2) (.slice A4 l.length c4) l)=>sput_any v h9 k0 x1 x2 A4 c4 l x4 x5 x6 (fun W'' hk=>(Kd.R_reads' (Kd.R_step (Kd.R_bound hR) (fun k hk' hlt=>hk.block k hlt (fun h2=>by have:=HH.out.lt k h2;have:=HB8.out;have:=hk'.2.1;omega)))).2.2) hc4 ⟨by have:=HRG.out.n;dsimp only at this;omega,HRG.out.t,HRG.out.tag,fun d hd=>(HRG.out.d d hd).1⟩ HRG.out.r2 HRG.out.o HRG.out.w (fun d hd=>(HRG.out.d d hd).2) (by omega))
     generalize putF v T k0 x1 x2 l x4 x5 x6=F at HPT HPT2 hpby hge
     obtain⟨rows,T2,er⟩:=F
     dsimp only at hpby hge
     have HGE2:=hQ hge
     have HPBY:=hQ hpby
     have HR6:=hQ hR6
     have HS2:=hQ hS2
     have HB68:=hQ hb68
     have HK68:=hQ hk68
     clear hge hpby hR6 hb6 hT2 hS2 hb68 hk68 HGE HGQ HCP2 HK58 HW5 HR5
     obtain⟨c0,cf0,c1,cf1,c2,cf2,c3,cf3,c4,cf4,c5,cf5,c6,cf6⟩:=facts7f HK68.out
     go_wp2_with fail
     clear c0 cf0 c1 cf1 c2 cf2 c3 cf3 c4 cf4 c5 cf5 c6 cf6
     refine HPT.out.mono ?_
     rintro en w7 ⟨v7,S7,rfl,hT7,hs7,hk7,hR7⟩
     dsimp only at hR7 ⊢
     obtain⟨A7,c7,rfl⟩:=Kd.R_slice hR7
     have hb7:Below b8 W w7:=by
      have e:=HB8.out
      subst e
      exact(Kp.trans (Kp.of_below HB68.out S2) hk7 (fun _ h=> .inl h)).to_below (fun k hk=>by have:=HS2.out k hk;omega)
     have hk78:=hk7.heap HK68.out (fun hs=>by have:=HS2.out _ hs;omega)
     have hR7d:Kd.R k129 129 w7 (b8+1) (fun k=>k<g2) (.slice A4 l.length c4) l:=Kd.R_step HR6.out (fun k hk' hlt=>hk7.block k hlt (fun h2=>by have:=HS2.out k h2;omega))
     have hC7:=(Kd.R_reads' hR7).2.2
     have HB7:=hQ hb7
     have HK78:=hQ hk78
     have HR7:=hQ hR7d
     have HC7:=hQ hC7
     clear hb7 hk78 hR7d hC7 hR7 hk7 hT7 hs7 HPT HB68 HK68 HR6
     by_cases her:er=0
     ·subst her
      have hCm:=Kd.C_mid (lo:=a) (hi:=n+1) (c:=c) (HPS.out w7 (Kp.of_below (HB8.out ▸ HB7.out) _)) haq hqn hc
      have hml:((ps.take (n+1)).drop a).length=n+1-a:=by rw[List.length_drop,List.length_take];omega
      simp only[show(kRows).sz=1 from rfl,Nat.mul_one]at hCm
      have hmb: ∀p∈(ps.take (n+1)).drop a,∀x∈p,0≤x∧x<256:=fun p hp=>(HBT.out p (List.mem_of_mem_take (List.mem_of_mem_drop hp))).2
      have hge3:=HGE2.out
      generalize (ps.take (n+1)).drop a=M at hCm hml hmb hge3
      rw[hml]at hCm
      have HGE3:=hQ hge3
      have HMB:=hQ hmb
      have HML:=hQ hml
      clear hmb hml hge3
      have HEQ:=hQ (fun(A2:Option Addr) (c2:Nat) (h2:Kd.C kRows w7 A2 M.length M)=>eqf_any A7 A2 c7 c2 rows M w7 HC7.out h2 HPBY.out HMB.out)
      rw[HML.out]at HEQ
      by_cases hca:c=a
      ·omega
      ·rw [if_neg hca]at hCm
       have HCM:Hid (Kd.C kRows w7 (some (ad1.add a)) (n+1-a) M):=hQ hCm
       have HEQ2:=hQ (HEQ.out (some (ad1.add a)) (c-a) HCM.out)
       clear hCm HEQ HCM
       go_wp2_with fail
       refine HEQ2.out.mono ?_
       rintro en w8 ⟨rfl,hb78⟩
       have hb8':Below b8 W w8:=HB7.out.trans (hb78.mono (Nat.le_of_lt (blk_lt HK78.out)))
       have hk88:=blk_below HK78.out hb78
       have hR8:=Kd.R_below HR7.out hb78
       have HB9:=hQ hb8'
       have HK88:=hQ hk88
       have HR8:=hQ hR8
       clear hb8' hk88 hR8 hb78 HEQ2 HB7 HK78
       have HG3:=HGE3.out
       by_cases heq:rows=M
       ·rw [if_pos ⟨by trivial,heq⟩]at HG3
        have HGZ:=hQ HG3
        rw[show decide (rows=M)=true from decide_eq_true heq]
        clear HG3 heq HGE3
        obtain⟨c0,cf0,c1,cf1,c2,cf2,c3,cf3,c4,cf4,c5,cf5,c6,cf6⟩:=facts7f HK88.out
        go_wp2_with fail
        clear c0 cf0 c1 cf1 c2 cf2 c3 cf3 c4 cf4 c5 cf5 c6 cf6
        refine(HPT2.out w8 (HH.out.keep (Kp.of_below (HB8.out ▸ HB9.out) (fun _=>False)) (fun _ _ h=>h)) HR8.out).mono ?_
        rintro en w9 ⟨v9,S9,rfl,hT9,hs9,hk9,_⟩
        dsimp only at hT9
        have hnS: ∀k,b8≤k→¬S k:=fun k hk hs=>by have:=HH.out.lt k hs;have:=HB8.out;omega
        have hk98:=hk9.heap HK88.out (hnS b8 (Nat.le_refl _))
        have hR9:Kd.R k129 129 w9 (b8+1) (fun k=>k<w8.heap.size∧b8+1≤k) (.slice A4 l.length c4) l:=Kd.R_step (Kd.R_mono (Kd.R_bound HR8.out) (fun k hk=>⟨hk.2.2.1,hk.2.1⟩)) (fun k hk' hlt=>hk9.block k hlt (hnS k (by omega)))
        have HK98:=hQ hk98
        have HR9:=hQ hR9
        have HT9:=hQ hT9
        have HS9:=hQ hs9
        have HK9:=hQ hk9
        have HNS:=hQ hnS
        clear hk98 hR9 hT9 hs9 hk9 hnS
        obtain⟨c0,cf0,c1,cf1,c2,cf2,c3,cf3,c4,cf4,c5,cf5,c6,cf6⟩:=facts7f HK98.out
        go_wp2_with fail
        clear c0 cf0 c1 cf1 c2 cf2 c3 cf3 c4 cf4 c5 cf5 c6 cf6
        refine bodyPost_ret (results_ctt rfl _ _ b8 49 #[_,_,_,_,_,_,_] (0,0) _ rfl (blk_put7 HK98.out _ _ _ _ _ _ _) HU.out rfl (by kernel_rfl)) rfl ?_
        rw[HGZ.out]
        have hkp:=kp_put7 w9 b8 (.int .i64 k0) (.string x1) (.int .u64 x2) (.slice A4 l.length c4) (.int .u64 x4) (.int .u64 x5) (.string x6)
        have hb9: ∀k,S9 k→¬k=b8:=fun k hk e=>by
         rcases HS9.out k hk with h9|h9
         ·exact HNS.out k (by omega) h9
         ·have:=blk_lt HK88.out;omega
        have hsz:=blk_lt HK88.out
        have e8:=HB8.out
        refine⟨.slice A4 l.length c4,S9,rfl,HT9.out.keep hkp hb9,fun k hk=> ?_, ?_, ?_⟩
        ·rcases HS9.out k hk with h9|h9
         ·exact .inl h9
         ·exact .inr (by omega)
        ·exact((Kp.of_below (HB8.out ▸ HB9.out) S).trans HK9.out (fun k hk=> .inl hk)).trans hkp (fun k hk=> .inr (by omega))
        ·refine Kd.R_mono (Kd.R_lower (R_above' (Kd.R_bound HR9.out) hkp) (by omega)) (fun k hk hs=> ?_)
         rcases HS9.out k hs with h9|h9
         ·exact HNS.out k (by have:=hk.1.2;omega) h9
         ·have:=hk.1.1;omega
       ·rw[if_neg (fun h=>heq h.2)]at HG3
        have HGZ:=hQ HG3
        rw[show decide (rows=M)=false from decide_eq_false heq]
        clear HG3 heq HGE3
        obtain⟨c0,cf0,c1,cf1,c2,cf2,c3,cf3,c4,cf4,c5,cf5,c6,cf6⟩:=facts7f HK88.out
        go_wp2_with fail
        refine bodyPost_ret (results_ctt rfl _ _ b8 49 #[_,_,_,_,_,_,_] (0,0) _ rfl (blk_put7 HK88.out _ _ _ _ _ _ _) HU.out rfl (by kernel_rfl)) rfl ?_
        rw[HGZ.out]
        have HBE:=below_put7 HB9.out (Nat.le_refl b8) (.int .i64 0) (.string ⟨#[]⟩) (.int .u64 0) (.slice none 0 0) (.int .u64 0) (.int .u64 0) (.string ⟨#[]⟩)
        have HE8:=HB8.out
        subst HE8
        exact GetPost.early HH.out HBE 3
     ·have hne:(er !=0)=true:=by simp[her]
      have hed:decide (er=0)=false:=decide_eq_false her
      have hG3:=HGE2.out
      rw[if_neg (fun h=>her h.1)]at hG3
      have HG3:=hQ hG3
      clear hG3
      obtain⟨c0,cf0,c1,cf1,c2,cf2,c3,cf3,c4,cf4,c5,cf5,c6,cf6⟩:=facts7f HK78.out
      go_wp2_with fail
      refine bodyPost_ret (results_ctt rfl _ _ b8 49 #[_,_,_,_,_,_,_] (0,0) _ rfl (blk_put7 HK78.out _ _ _ _ _ _ _) HU.out rfl (by kernel_rfl)) rfl ?_
      rw[HG3.out]
      have HBE:=below_put7 HB7.out (Nat.le_refl b8) (.int .i64 0) (.string ⟨#[]⟩) (.int .u64 0) (.slice none 0 0) (.int .u64 0) (.int .u64 0) (.string ⟨#[]⟩)
      have HE8:=HB8.out
      subst HE8
      exact GetPost.early HH.out HBE 3
   ·have hpd:decide (0<(p.length:Int))=false:=decide_eq_false (by omega)
    have hdef:isDef p=false:=by
     cases p with
     |nil=>rfl
     |cons x r=>simp at hp0
    have hqf:decide ((n:Int)=(ps.length:Int))=false:=decide_eq_false (by omega)
    have HGQ:=hQ (hG hdef)
    obtain⟨L,hLL⟩:=eX (tnewOn T (((ps.drop a).take (n-a)).map defS))
    rw[hLL]at HN HGQ
    obtain⟨S1,hT1,hS1,hbl⟩:=HN.out
    have hwd:=hT1.wide
    have hrg:=lastR_rg (v:=v) (T:=L) hwd hbp.2 (by omega)
    have HCN:=hQ (cnew_any B1 d1 p 0 wr hr1 hl1 (by omega))
    have HT1:=hQ hT1
    have HS1':=hQ hS1
    have HBL:=hQ hbl
    have HBP:=hQ hbp
    have hplen:p.length≤3000:=hbp.1
    have haq:a≤n+1:=by omega
    have hqn:n+1≤ps.length:=by omega
    have hqc:n+1≤c:=by omega
    obtain⟨R,hR⟩:=eX ((lastR v L p).1)
    rw[hR]at hrg HGQ
    have HRR:=hQ hR
    obtain⟨k0,x1,x2,l,x4,x5,x6⟩:=R
    have HRG:=hQ hrg
    clear hT1 hS1 hbl hwd hrg hbp hLL hR hG hl1 hr1 hC htk hdn hdef
    go_wp2_with fail
    refine HCN.out.mono ?_
    rintro en w3 ⟨g,w0,rfl,hbA,hcu,hbB,_,_⟩
    rw[newAt0 p,newE0 p]at hcu
    have hg0:w0.heap.size≤g:=by obtain⟨_,_,_,h,_⟩:=hcu;exact h
    have hbw:Below wr.heap.size wr w3:=hbA.trans (hbB.mono hbA.size)
    have hRd:Rd w0 w3 S1 g g1 L p 0 0:=⟨hcu,hbB,HT1.out.keep (Kp.of_below hbw (fun _=>False)) (fun _ _ h=>h),fun hs=>by have:=HT1.out.lt _ hs;have:=hbA.size;omega⟩
    have hb3:Below W1.heap.size W1 w3:=HBL.out.trans (hbw.mono HBL.out.size)
    have hgb:W1.heap.size≤g:=by have:=HBL.out.size;have:=hbA.size;omega
    have HRL:=hQ (rlast_any v HV.out hRd HBP.out.2 (by omega))
    rw[HRR.out]at HRL
    have HB3:=hQ hb3
    have HGB:=hQ hgb
    clear hRd hcu hbA hbB hbw hb3 hgb hg0 HCN
    go_wp2_with fail
    refine HRL.out.mono ?_
    rintro en w4 ⟨dv,rfl,hR4,hk4⟩
    dsimp only at hR4
    obtain⟨A4,c4,rfl⟩:=Kd.R_slice hR4
    dsimp only
    have hb4:Below W1.heap.size W1 w4:=(Kp.trans (Kp.of_below HB3.out (fun k=>k=g)) hk4 (fun _ h=> .inl h)).to_below (fun k hk=>by have:=HGB.out;omega)
    have hk48:w4.heap[b8]? =some (.cells #[.int .i64 0,.string ⟨#[]⟩,.int .u64 0,.slice none 0 0,.int .u64 0,.int .u64 0,.string ⟨#[]⟩] 49 (0,0)):=(hb4.block b8 (by have:=HS1.out;omega)).trans HK1.out
    obtain⟨w5,hw5⟩:=eX ((((((((w4.setCell ⟨b8,0,none⟩ (.int .i64 k0)).setCell ⟨b8,1,none⟩ (.string x1)).setCell ⟨b8,2,none⟩ (.int .u64 x2)).setCell ⟨b8,3,none⟩ (.slice A4 l.length c4)).setCell ⟨b8,4,none⟩ (.int .u64 x4)).setCell ⟨b8,5,none⟩ (.int .u64 x5)).setCell ⟨b8,6,none⟩ (.string x6)))
    have hk58:w5.heap[b8]? =some (.cells #[.int .i64 k0,.string x1,.int .u64 x2,.slice A4 l.length c4,.int .u64 x4,.int .u64 x5,.string x6] 49 (0,0)):=by rw[←hw5];exact blk_put7 hk48 _ _ _ _ _ _ _
    have hb40:Below b8 W w4:=(by have:=HB8.out;subst this;exact HB1.out.trans (hb4.mono HB1.out.size))
    have hb5:Below b8 W w5:=by rw[←hw5];exact below_put7 hb40 (Nat.le_refl _) _ _ _ _ _ _ _
    have hR5:Kd.R k129 129 w5 (b8+1) (fun _=>True) (.slice A4 l.length c4) l:=by
     rw[←hw5]
     exact R_above (Kd.R_lower hR4 (by have:=HB3.out.size;have:=HS1.out;omega)) (fun q hq _=>heap_put7 _ (by omega) _ _ _ _ _ _ _)
    have hT5:Tab w5 S t T:=HH.out.keep (Kp.of_below (HB8.out ▸ hb5) (fun _=>False)) (fun _ _ h=>h)
    have HCP2:=hQ (copy_any hT5 (by omega))
    have HK48:=hQ hk48
    have HW5:=hQ hw5
    have HK58:=hQ hk58
    have HB5:=hQ hb5
    have HR5:=hQ hR5
    obtain⟨g2,hg2⟩:=eX (w5.heap.size)
    rw[hg2]at HCP2
    have HG2:=hQ hg2
    clear hb4 hk48 hw5 hk58 hb40 hb5 hR5 hT5 hR4 hk4 hg2 HRL HB3 HGB HRR
    obtain⟨c0,cf0,c1,cf1,c2,cf2,c3,cf3,c4,cf4,c5,cf5,c6,cf6⟩:=facts7f HK48.out
    go_wp2_with fail
    rw[HW5.out]
    clear c0 cf0 c1 cf1 c2 cf2 c3 cf3 c4 cf4 c5 cf5 c6 cf6
    refine HCP2.out.mono ?_
    rintro en w6 ⟨rfl,hN6⟩
    obtain⟨S2,hT2,hS2,hb6⟩:=hN6
    rw[HG2.out]at hS2
    have h5b:b8+1≤g2:=by have:=HG2.out;have:=blk_lt HK58.out;omega
    have hR6:Kd.R k129 129 w6 (b8+1) (fun k=>k<g2) (.slice A4 l.length c4) l:=Kd.R_below (Kd.R_mono (Kd.R_bound HR5.out) (fun k hk=>by have:=hk.2.2.1;have:=HG2.out;omega)) hb6
    have hk68:=blk_below HK58.out hb6
    have hc4:=(Kd.R_reads' hR6).2.1
    have hb68:Below b8 W w6:=HB5.out.trans (hb6.mono (Nat.le_of_lt (blk_lt HK58.out)))
    have HPT:=hQ (sput_any v hT2 k0 x1 x2 A4 c4 l x4 x5 x6 (fun W' hk=>(Kd.R_reads' (Kd.R_step hR6 (fun k hk' hlt=>hk.block k hlt (fun h2=>by have:=hS2 k h2;omega)))).2.2) hc4 ⟨by have:=HRG.out.n;dsimp only at this;omega,HRG.out.t,HRG.out.tag,fun d hd=>(HRG.out.d d hd).1⟩ HRG.out.r2 HRG.out.o HRG.out.w (fun d hd=>(HRG.out.d d hd).2) (by omega))
    have hpby:=putF_bytes v T (by omega) k0 HRG.out.k x1 HRG.out.t x2 HRG.out.r2.2 l (by have:=HRG.out.n;dsimp only at this;omega) (fun d hd=>⟨(HRG.out.d d hd).1,(HRG.out.d d hd).2.2⟩) x4 x5 HRG.out.o.2 HRG.out.w.2 x6
    have HGE:Hid (getF v T ps (a:Int)=getG v T ps a n (k0,x1,x2,l,x4,x5,x6)):=hQ HGQ.out
    have hge:=HGE.out
    unfold getG at hge
    dsimp only at hge
    have HPT2:=hQ (fun(W':World) (h9:Tab W' S t T) (hR:Kd.R k129 129 W' (b8+1) (fun k=>k<g2) (.slice A4 l.length c4) l)=>sput_any v h9 k0 x1 x2 A4 c4 l x4 x5 x6 (fun W'' hk=>(Kd.R_reads' (Kd.R_step (Kd.R_bound hR) (fun k hk' hlt=>hk.block k hlt (fun h2=>by have:=HH.out.lt k h2;have:=HB8.out;have:=hk'.2.1;omega)))).2.2) hc4 ⟨by have:=HRG.out.n;dsimp only at this;omega,HRG.out.t,HRG.out.tag,fun d hd=>(HRG.out.d d hd).1⟩ HRG.out.r2 HRG.out.o HRG.out.w (fun d hd=>(HRG.out.d d hd).2) (by omega))
    generalize putF v T k0 x1 x2 l x4 x5 x6=F at HPT HPT2 hpby hge
    obtain⟨rows,T2,er⟩:=F
    dsimp only at hpby hge
    have HGE2:=hQ hge
    have HPBY:=hQ hpby
    have HR6:=hQ hR6
    have HS2:=hQ hS2
    have HB68:=hQ hb68
    have HK68:=hQ hk68
    clear hge hpby hR6 hb6 hT2 hS2 hb68 hk68 HGE HGQ HCP2 HK58 HW5 HR5
    obtain⟨c0,cf0,c1,cf1,c2,cf2,c3,cf3,c4,cf4,c5,cf5,c6,cf6⟩:=facts7f HK68.out
    go_wp2_with fail
    clear c0 cf0 c1 cf1 c2 cf2 c3 cf3 c4 cf4 c5 cf5 c6 cf6
    refine HPT.out.mono ?_
    rintro en w7 ⟨v7,S7,rfl,hT7,hs7,hk7,hR7⟩
    dsimp only at hR7 ⊢
    obtain⟨A7,c7,rfl⟩:=Kd.R_slice hR7
    have hb7:Below b8 W w7:=by
     have e:=HB8.out
     subst e
     exact(Kp.trans (Kp.of_below HB68.out S2) hk7 (fun _ h=> .inl h)).to_below (fun k hk=>by have:=HS2.out k hk;omega)
    have hk78:=hk7.heap HK68.out (fun hs=>by have:=HS2.out _ hs;omega)
    have hR7d:Kd.R k129 129 w7 (b8+1) (fun k=>k<g2) (.slice A4 l.length c4) l:=Kd.R_step HR6.out (fun k hk' hlt=>hk7.block k hlt (fun h2=>by have:=HS2.out k h2;omega))
    have hC7:=(Kd.R_reads' hR7).2.2
    have HB7:=hQ hb7
    have HK78:=hQ hk78
    have HR7:=hQ hR7d
    have HC7:=hQ hC7
    clear hb7 hk78 hR7d hC7 hR7 hk7 hT7 hs7 HPT HB68 HK68 HR6
    by_cases her:er=0
    ·subst her
     have hCm:=Kd.C_mid (lo:=a) (hi:=n+1) (c:=c) (HPS.out w7 (Kp.of_below (HB8.out ▸ HB7.out) _)) haq hqn hc
     have hml:((ps.take (n+1)).drop a).length=n+1-a:=by rw[List.length_drop,List.length_take];omega
     simp only[show(kRows).sz=1 from rfl,Nat.mul_one]at hCm
     have hmb: ∀p∈(ps.take (n+1)).drop a,∀x∈p,0≤x∧x<256:=fun p hp=>(HBT.out p (List.mem_of_mem_take (List.mem_of_mem_drop hp))).2
     have hge3:=HGE2.out
     generalize (ps.take (n+1)).drop a=M at hCm hml hmb hge3
     rw[hml]at hCm
     have HGE3:=hQ hge3
     have HMB:=hQ hmb
     have HML:=hQ hml
     clear hmb hml hge3
     have HEQ:=hQ (fun(A2:Option Addr) (c2:Nat) (h2:Kd.C kRows w7 A2 M.length M)=>eqf_any A7 A2 c7 c2 rows M w7 HC7.out h2 HPBY.out HMB.out)
     rw[HML.out]at HEQ
     by_cases hca:c=a
     ·omega
     ·rw [if_neg hca]at hCm
      have HCM:Hid (Kd.C kRows w7 (some (ad1.add a)) (n+1-a) M):=hQ hCm
      have HEQ2:=hQ (HEQ.out (some (ad1.add a)) (c-a) HCM.out)
      clear hCm HEQ HCM
      go_wp2_with fail
      refine HEQ2.out.mono ?_
      rintro en w8 ⟨rfl,hb78⟩
      have hb8':Below b8 W w8:=HB7.out.trans (hb78.mono (Nat.le_of_lt (blk_lt HK78.out)))
      have hk88:=blk_below HK78.out hb78
      have hR8:=Kd.R_below HR7.out hb78
      have HB9:=hQ hb8'
      have HK88:=hQ hk88
      have HR8:=hQ hR8
      clear hb8' hk88 hR8 hb78 HEQ2 HB7 HK78
      have HG3:=HGE3.out
      by_cases heq:rows=M
      ·rw [if_pos ⟨by trivial,heq⟩]at HG3
       have HGZ:=hQ HG3
       rw[show decide (rows=M)=true from decide_eq_true heq]
       clear HG3 heq HGE3
       obtain⟨c0,cf0,c1,cf1,c2,cf2,c3,cf3,c4,cf4,c5,cf5,c6,cf6⟩:=facts7f HK88.out
       go_wp2_with fail
       clear c0 cf0 c1 cf1 c2 cf2 c3 cf3 c4 cf4 c5 cf5 c6 cf6
       refine(HPT2.out w8 (HH.out.keep (Kp.of_below (HB8.out ▸ HB9.out) (fun _=>False)) (fun _ _ h=>h)) HR8.out).mono ?_
       rintro en w9 ⟨v9,S9,rfl,hT9,hs9,hk9,_⟩
       dsimp only at hT9
       have hnS: ∀k,b8≤k→¬S k:=fun k hk hs=>by have:=HH.out.lt k hs;have:=HB8.out;omega
       have hk98:=hk9.heap HK88.out (hnS b8 (Nat.le_refl _))
       have hR9:Kd.R k129 129 w9 (b8+1) (fun k=>k<w8.heap.size∧b8+1≤k) (.slice A4 l.length c4) l:=Kd.R_step (Kd.R_mono (Kd.R_bound HR8.out) (fun k hk=>⟨hk.2.2.1,hk.2.1⟩)) (fun k hk' hlt=>hk9.block k hlt (hnS k (by omega)))
       have HK98:=hQ hk98
       have HR9:=hQ hR9
       have HT9:=hQ hT9
       have HS9:=hQ hs9
       have HK9:=hQ hk9
       have HNS:=hQ hnS
       clear hk98 hR9 hT9 hs9 hk9 hnS
       obtain⟨c0,cf0,c1,cf1,c2,cf2,c3,cf3,c4,cf4,c5,cf5,c6,cf6⟩:=facts7f HK98.out
       go_wp2_with fail
       clear c0 cf0 c1 cf1 c2 cf2 c3 cf3 c4 cf4 c5 cf5 c6 cf6
       refine bodyPost_ret (results_ctt rfl _ _ b8 49 #[_,_,_,_,_,_,_] (0,0) _ rfl (blk_put7 HK98.out _ _ _ _ _ _ _) HU.out rfl (by kernel_rfl)) rfl ?_
       rw[HGZ.out]
       have hkp:=kp_put7 w9 b8 (.int .i64 k0) (.string x1) (.int .u64 x2) (.slice A4 l.length c4) (.int .u64 x4) (.int .u64 x5) (.string x6)
       have hb9: ∀k,S9 k→¬k=b8:=fun k hk e=>by
        rcases HS9.out k hk with h9|h9
        ·exact HNS.out k (by omega) h9
        ·have:=blk_lt HK88.out;omega
       have hsz:=blk_lt HK88.out
       have e8:=HB8.out
       refine⟨.slice A4 l.length c4,S9,rfl,HT9.out.keep hkp hb9,fun k hk=> ?_, ?_, ?_⟩
       ·rcases HS9.out k hk with h9|h9
        ·exact .inl h9
        ·exact .inr (by omega)
       ·exact((Kp.of_below (HB8.out ▸ HB9.out) S).trans HK9.out (fun k hk=> .inl hk)).trans hkp (fun k hk=> .inr (by omega))
       ·refine Kd.R_mono (Kd.R_lower (R_above' (Kd.R_bound HR9.out) hkp) (by omega)) (fun k hk hs=> ?_)
        rcases HS9.out k hs with h9|h9
        ·exact HNS.out k (by have:=hk.1.2;omega) h9
        ·have:=hk.1.1;omega
      ·rw[if_neg (fun h=>heq h.2)]at HG3
       have HGZ:=hQ HG3
       rw[show decide (rows=M)=false from decide_eq_false heq]
       clear HG3 heq HGE3
       obtain⟨c0,cf0,c1,cf1,c2,cf2,c3,cf3,c4,cf4,c5,cf5,c6,cf6⟩:=facts7f HK88.out
       go_wp2_with fail
       refine bodyPost_ret (results_ctt rfl _ _ b8 49 #[_,_,_,_,_,_,_] (0,0) _ rfl (blk_put7 HK88.out _ _ _ _ _ _ _) HU.out rfl (by kernel_rfl)) rfl ?_
       rw[HGZ.out]
       have HBE:=below_put7 HB9.out (Nat.le_refl b8) (.int .i64 0) (.string ⟨#[]⟩) (.int .u64 0) (.slice none 0 0) (.int .u64 0) (.int .u64 0) (.string ⟨#[]⟩)
       have HE8:=HB8.out
       subst HE8
       exact GetPost.early HH.out HBE 3
    ·have hne:(er !=0)=true:=by simp[her]
     have hed:decide (er=0)=false:=decide_eq_false her
     have hG3:=HGE2.out
     rw[if_neg (fun h=>her h.1)]at hG3
     have HG3:=hQ hG3
     clear hG3
     obtain⟨c0,cf0,c1,cf1,c2,cf2,c3,cf3,c4,cf4,c5,cf5,c6,cf6⟩:=facts7f HK78.out
     go_wp2_with fail
     refine bodyPost_ret (results_ctt rfl _ _ b8 49 #[_,_,_,_,_,_,_] (0,0) _ rfl (blk_put7 HK78.out _ _ _ _ _ _ _) HU.out rfl (by kernel_rfl)) rfl ?_
     rw[HG3.out]
     have HBE:=below_put7 HB7.out (Nat.le_refl b8) (.int .i64 0) (.string ⟨#[]⟩) (.int .u64 0) (.slice none 0 0) (.int .u64 0) (.int .u64 0) (.string ⟨#[]⟩)
     have HE8:=HB8.out
     subst HE8
     exact GetPost.early HH.out HBE 3
  ·obtain rfl:n=ps.length:=by omega
   have hC:=HPS.out wr (Kp.of_below (HB1.out.trans ((HN.out.below).mono HB1.out.size)) _)
   have hGF:=getF_at (T:=T) HV.out hna hnl HD.out (fun h=>absurd h (by omega))
   rw[if_pos rfl]at hGF
   have HGF:=hQ hGF
   have hb9:=HN.out.below
   have hk98:=(hb9.block b8 (by have:=HS1.out;omega)).trans HK1.out
   have hb98:Below b8 W wr:=(by have e:=HB8.out;subst e;exact HB1.out.trans (hb9.mono HB1.out.size))
   have HK98:=hQ hk98
   have HB98:=hQ hb98
   have hdl:decide ((ps.length:Int)<(ps.length:Int))=false:=decide_eq_false (by omega)
   clear hGF hb9 hk98 hb98 hC
   obtain⟨c0,cf0,c1,cf1,c2,cf2,c3,cf3,c4,cf4,c5,cf5,c6,cf6⟩:=facts7f HK98.out
   go_wp2_with fail
   refine bodyPost_ret (results_ctt rfl _ _ b8 49 #[_,_,_,_,_,_,_] (0,0) _ rfl (blk_put7 HK98.out _ _ _ _ _ _ _) HU.out rfl (by kernel_rfl)) rfl ?_
   rw[HGF.out]
   have HBE:=below_put7 HB98.out (Nat.le_refl b8) (.int .i64 0) (.string ⟨#[]⟩) (.int .u64 0) (.slice none 0 0) (.int .u64 0) (.int .u64 0) (.string ⟨#[]⟩)
   have HE8:=HB8.out
   subst HE8
   exact GetPost.early HH.out HBE 6
theorem sget_any {W:World} {S:Nat→Prop} {t:Nat} {T:List ByteArray} (h:Tab W S t T) (v:Int) (A:Option Addr) (c:Nat) (ps:List (List Int)) (at0:Int) (hps: ∀W',Kp W W' S→Kd.C kRows W' A ps.length ps) (hc:ps.length≤c) (hbt: ∀p∈ps,p.length≤3000∧∀x∈p,0≤x∧x<256) (hT:T.length≤50000) (hn:ps.length≤10000):
  Calls Tryz.prog 24 #[.int .i64 v,.pointer (some ⟨t,0,none⟩),.slice A ps.length c,.int .i64 at0] W (GetPost W S t (getF v T ps at0)):=by
 by_cases hv:1≤v∧v≤3
 ·by_cases h0:at0<0
  ·exact sget_arg1 h v A c ps at0 hv h0
  ·by_cases h1:(ps.length:Int)<at0
   ·exact sget_arg2 h v A c ps at0 hv ⟨by omega,h1⟩
   ·obtain⟨a,rfl⟩:=Int.eq_ofNat_of_zero_le (show 0≤at0 by omega)
    exact sget_ok h v A c ps a hv (by omega) hps hc hbt hT hn
 ·exact sget_ver h v A c ps at0 hv
theorem below_kp {w W W':World} {S:Nat→Prop} (h:Below w.heap.size w W) (hk:Kp W W' S) (hs: ∀k,S k→w.heap.size≤k):Below w.heap.size w W':=
 ((Kp.of_below h (fun _=>False)).trans hk (fun k h=> .inr (hs k h))).to_below (fun _ h=>h.elim)
def aB:ByteArray:=⟨#[97]⟩
def RdB (B:Nat) (W:World) (v:Value) (s:ByteArray):Prop:=∃b c cap fr,v= .slice (some ⟨b,0,none⟩) s.size c∧B≤b∧s.size≤c∧W.heap[b]? =some (.cells (Go.bytesRow s cap) 5 fr)
theorem RdB.below {B:Nat} {W W':World} {v:Value} {s:ByteArray} (h:RdB B W v s) (hb:Below W.heap.size W W'):RdB B W' v s:=by
 obtain⟨b,c,cap,fr,h1,h2,h3,h4⟩:=h
 exact⟨b,c,cap,fr,h1,h2,h3,(hb.block b (Array.getElem?_eq_some_iff.1 h4).1).trans h4⟩
theorem RdB.grown {B:Nat} {W W':World} {v:Value} {s:ByteArray} {row:Option Nat} (h:RdB B W v s) (hg:W.grownBy W' row) (ht: ∀k,row=some k→∃C fr,W.heap[k]? =some (.cells C 22 fr)):RdB B W' v s:=by
 obtain⟨b,c,cap,fr,h1,h2,h3,h4⟩:=h
 refine⟨b,c,cap,fr,h1,h2,h3,(hg.block b (Array.getElem?_eq_some_iff.1 h4).1 (fun e=> ?_)).trans h4⟩
 obtain⟨C,fr2,h5⟩:=ht b e.symm
 rw[h4]at h5
 injection h5 with h5
 injection h5 with _ h5
 exact absurd h5 (by decide)
theorem heap_new2 (w:World) (o p:Obj):((w.alloc o).alloc p).heap[w.heap.size+1]? =some p:=by
 have:=heap_new (w.alloc o) p
 rwa [heap_size_alloc]at this
theorem wf_u64 {n:Int} (h:(Lit.int .u64 n).wf=true):0≤n∧n<18446744073709551616:=by
 simp[Lit.wf,IntKind.min,IntKind.max,IntKind.signed,IntKind.bits]at h;omega
abbrev putR (v:Int) (T:List ByteArray) (r:Rec9):=putF v T r.1 r.2.1 r.2.2.1 r.2.2.2.1 r.2.2.2.2.1 r.2.2.2.2.2.1 r.2.2.2.2.2.2
abbrev mayR (v:Int) (r:Rec9):=mayB v r.1 r.2.1 r.2.2.1 r.2.2.2.1 r.2.2.2.2.1 r.2.2.2.2.2.1 r.2.2.2.2.2.2
structure NumR (r:Rec9):Prop where
 r2:0≤r.2.2.1∧r.2.2.1<18446744073709551616
 o:0≤r.2.2.2.2.1∧r.2.2.2.2.1<18446744073709551616
 w:0≤r.2.2.2.2.2.1∧r.2.2.2.2.2.1<18446744073709551616
 d: ∀d∈r.2.2.2.1,0≤d.f1∧d.f1<18446744073709551616
theorem NumR.of {r:Rec9} (h:okRec r):NumR r:=⟨wf_u64 h.2.2.1,wf_u64 h.2.2.2.2.1,wf_u64 h.2.2.2.2.2.1,fun d hd=>wf_u64 (h.2.2.2.1.2 d hd).2.1⟩
structure GoodR (v:Int) (r:Rec9):Prop where
 may:mayR v r=true
 num:NumR r
theorem putF_yes {v:Int} {T:List ByteArray} {r:Rec9} (h:(putR v T r).2.2=0):mayR v r=true:=by
 unfold putR putF at h
 split at h
 ·split at h
  ·rename_i hm;exact hm
  ·exact absurd h (show ¬(1:Int)=0 by decide)
 ·exact absurd h (show ¬(11:Int)=0 by decide)
theorem putF_may {v:Int} (T:List ByteArray) {r:Rec9} (h:mayR v r=true):putR v T r=(moreE T (if 1<v then tnewOn T (tnew (namesL r.2.1 r.2.2.2.1 r.2.2.2.2.2.2))else T)++[lastE v (if 1<v then tnewOn T (tnew (namesL r.2.1 r.2.2.2.1 r.2.2.2.2.2.2))else T) r.1 r.2.1 r.2.2.1 r.2.2.2.1 r.2.2.2.2.1 r.2.2.2.2.2.1 r.2.2.2.2.2.2],(if 1<v then tnewOn T (tnew (namesL r.2.1 r.2.2.2.1 r.2.2.2.2.2.2))else T),0):=by
 unfold putR putF
 rw[if_pos (may_facts h).ver,if_pos h]
structure PutFit (v:Int) (T:List ByteArray) (F:List (List Int)×List ByteArray×Int):Prop where
 n0:1≤F.1.length
 n1:F.1.length≤19
 t:F.2.1.length≤T.length+18
 nd:F.2.1.Nodup
 b: ∀p∈F.1,p.length≤3000∧∀x∈p,0≤x∧x<256
 z: ∀s∈F.2.1,s∈T∨s.size≤64
theorem put_fit {v:Int} {T:List ByteArray} {r:Rec9} (hT:T.length≤50000) (hd:T.Nodup) (h:GoodR v r):PutFit v T (putR v T r):=by
 have M:=may_facts h.may
 have hnw:=names_few (x1:=r.2.1) (l:=r.2.2.2.1) (x6:=r.2.2.2.2.2.2) M.t.2 M.n (fun d hd=>(M.d d hd).2.1) M.tag.1
 have hby: ∀p∈(putR v T r).1,∀x∈p,0≤x∧x<256:=putF_bytes v T (by omega) r.1 (by have:=M.k;omega) r.2.1 (by have:=M.t;simp only[maxLen];omega) r.2.2.1 h.num.r2.2 r.2.2.2.1 (by have:=M.n;omega) (fun d hd=>⟨by have:=(M.d d hd).2.1;simp only[maxLen];omega,(h.num.d d hd).2⟩) r.2.2.2.2.1 r.2.2.2.2.2.1 h.num.o.2 h.num.w.2 r.2.2.2.2.2.2
 have e:=putF_may T h.may
 obtain⟨T',hT'⟩: ∃T',(if 1<v then tnewOn T (tnew (namesL r.2.1 r.2.2.2.1 r.2.2.2.2.2.2))else T)=T':=⟨_,rfl⟩
 rw[hT']at e
 have hlen:T'.length≤T.length+18:=by
  rw[←hT']
  split
  ·have:=tnewOn_len T (tnew (namesL r.2.1 r.2.2.2.1 r.2.2.2.2.2.2));omega
  ·omega
 have hmem: ∀s∈T',s∈T∨s.size≤64:=by
  rw[←hT']
  split
  ·intro s hs
   rw[mem_tnewOn]at hs
   exact hs.imp id (hnw.2 s)
  ·exact fun s hs=> .inl hs
 have hpre: ∃m,T'=T++m:=by
  rw[←hT']
  split
  ·exact tnewOn_prefix _ _
  ·exact⟨[],by simp⟩
 have hnd:T'.Nodup:=by
  rw[←hT']
  split
  ·exact tnewOn_nodup _ _ hd
  ·exact hd
 rw[e]at hby ⊢
 have hml:(moreE T T').length≤18:=by unfold moreE;rw[List.length_map,List.length_drop];omega
 refine⟨by simp,by simp only[List.length_append,List.length_cons,List.length_nil];omega,hlen,hnd,fun p hp=>⟨?_,hby p hp⟩,hmem⟩
 rcases List.mem_append.1 hp with hp|hp
 ·unfold moreE at hp
  obtain⟨s,hs,rfl⟩:=List.mem_map.1 hp
  obtain⟨m,hm⟩:=hpre
  rw[hm,List.drop_left]at hs
  have hs64:s.size≤64:=by
   have h1:=hmem s (by rw[hm];exact List.mem_append_right _ hs)
   rcases h1 with h1|h1
   ·rw[hm]at hnd
    exact absurd rfl ((List.nodup_append.1 hnd).2.2 s h1 s hs)
   ·exact h1
  unfold defE
  rw[List.length_cons,bytesOf_length]
  omega
 ·simp only[List.mem_singleton]at hp
  subst hp
  have h1:=textE_len v T' (by omega) r.2.1 M.t.2
  have h2:=bodyE_len v T' (by omega) r.2.2.1 r.2.2.2.1 r.2.2.2.2.1 r.2.2.2.2.2.1 r.2.2.2.2.2.2 M.n (fun d hd=>⟨(M.d d hd).2.1,(h.num.d d hd).2⟩) h.num.r2.2 h.num.o.2 h.num.w.2
  unfold lastE
  simp only[List.length_append,List.length_cons,List.length_nil]
  split
  ·simp only[List.length_nil];omega
  ·omega
def layStep (v:Int) (s:List (List Int)×List ByteArray) (r:Rec9):List (List Int)×List ByteArray:=(s.1++(putR v s.2 r).1,(putR v s.2 r).2.1)
def layF (v:Int) (l:List Rec9):List (List Int)×List ByteArray:=l.foldl (layStep v) ([],[])
structure LayFit (l:List Rec9) (s:List (List Int)×List ByteArray):Prop where
 n:s.1.length≤19*l.length
 t:s.2.length≤18*l.length
 nd:s.2.Nodup
 b: ∀p∈s.1,p.length≤3000∧∀x∈p,0≤x∧x<256
theorem info_rec9:(Tryz.prog.info? 49).map (fun i=>(i.zero,i.size,i.bytes))=some (some (.agg #[.int .i64 0,.string ⟨#[]⟩,.int .u64 0,.slice none 0 0,.int .u64 0,.int .u64 0,.string ⟨#[]⟩]),7,88):=by kernel_rfl
def cells9 (r:Rec9) (A:Option Addr) (c:Nat):List Value:=[.int .i64 r.1,.string r.2.1,.int .u64 r.2.2.1,.slice A r.2.2.2.1.length c,.int .u64 r.2.2.2.2.1,.int .u64 r.2.2.2.2.2.1,.string r.2.2.2.2.2.2]
theorem kdRec_open {w:World} {r:Rec9} {cs:List Value} (h:kdRec.K w r cs): ∃A c,cs=cells9 r A c∧r.2.2.2.1.length≤c∧Kd.C k129 w A r.2.2.2.1.length r.2.2.2.1:=by
 obtain⟨x0,x1,x2,x3,x4,x5,x6⟩:=r
 obtain⟨c0,r0,rfl,h0,c1,r1,rfl,h1,c2,r2,rfl,h2,c3,r3,rfl,⟨A,c,hc3,hle,hC⟩,c4,r4,rfl,h4,c5,r5,rfl,h5,h6⟩:=h
 have g0:c0=[.int .i64 x0]:=h0
 have g1:c1=[.string x1]:=h1
 have g2:c2=[.int .u64 x2]:=h2
 have g4:c4=[.int .u64 x4]:=h4
 have g5:c5=[.int .u64 x5]:=h5
 have g6:r5=[.string x6]:=h6
 subst g0 g1 g2 g4 g5 g6 hc3
 exact⟨A,c,rfl,hle,hC⟩
theorem at_row9 {d:Kd Rec9} {w W:World} {A:Option Addr} {l:List Rec9} (hd:d.sz=7) (hK: ∀r cs,d.K W r cs→kdRec.K w r cs) (h:Kd.C d W A l.length l) (i:Nat) (hi:i<l.length) (r:Rec9) (hr:l[i]=r):
  ∃ad A3 c3,A=some ad∧W.cell? (ad.add (i*7))=some (.int .i64 r.1)∧W.cell? ⟨(ad.add (i*7)).block,(ad.add (i*7)).off+1,none⟩=some (.string r.2.1)∧W.cell? ⟨(ad.add (i*7)).block,(ad.add (i*7)).off+2,none⟩=some (.int .u64 r.2.2.1)∧
   W.cell? ⟨(ad.add (i*7)).block,(ad.add (i*7)).off+3,none⟩=some (.slice A3 r.2.2.2.1.length c3)∧W.cell? ⟨(ad.add (i*7)).block,(ad.add (i*7)).off+4,none⟩=some (.int .u64 r.2.2.2.2.1)∧W.cell? ⟨(ad.add (i*7)).block,(ad.add (i*7)).off+5,none⟩=some (.int .u64 r.2.2.2.2.2.1)∧
   W.cell? ⟨(ad.add (i*7)).block,(ad.add (i*7)).off+6,none⟩=some (.string r.2.2.2.2.2.2)∧r.2.2.2.1.length≤c3∧Kd.C k129 w A3 r.2.2.2.1.length r.2.2.2.1:=by
 obtain⟨ad,c,e,_,hKr,hc0⟩:=Kd.C_get h rec0 (i:Int) (by omega) (by omega)
 rw[Int.toNat_natCast,hd]at hc0
 rw[Int.toNat_natCast,show l.getD i rec0=r by simp[hi,hr]]at hKr
 obtain⟨A3,c3,rfl,hle,hC⟩:=kdRec_open (hK _ _ hKr)
 exact⟨ad,A3,c3,e,hc0 0 _ rfl,by rw[←add_field _ _ 1 (by omega)];exact hc0 1 _ rfl,by rw[←add_field _ _ 2 (by omega)];exact hc0 2 _ rfl,by rw[←add_field _ _ 3 (by omega)];exact hc0 3 _ rfl,by rw[←add_field _ _ 4 (by omega)];exact hc0 4 _ rfl,by rw[←add_field _ _ 5 (by omega)];exact hc0 5 _ rfl,by rw[←add_field _ _ 6 (by omega)];exact hc0 6 _ rfl,hle,hC⟩
theorem row_one9 {w:World} {b:Nat} {r:Rec9} {A3:Option Addr} {c3:Nat} (hb:w.heap[b]? =some (.cells #[.int .i64 r.1,.string r.2.1,.int .u64 r.2.2.1,.slice A3 r.2.2.2.1.length c3,.int .u64 r.2.2.2.2.1,.int .u64 r.2.2.2.2.2.1,.string r.2.2.2.2.2.2] 49 (0,0))):
  ReadsRow (fun y cs=>y=r∧cs=cells9 r A3 c3) 7 w (some ⟨b,0,none⟩) 1 [r]:=by
 refine⟨rfl,by omega,fun _=>⟨_,rfl,fun j p hj=> ?_⟩⟩
 match j with
 | 0=>
  obtain rfl:r=p:=by simpa using hj
  refine⟨_,rfl,⟨rfl,rfl⟩,fun i u hu=> ?_⟩
  rw[Nat.zero_mul,Nat.zero_add]
  have e:(⟨b,0,none⟩:Addr).add i=⟨b,i,none⟩:=add_plain b i
  rw[e,blk_cell hb i]
  simpa [cells9]using hu
 |j+1=>simp at hj
abbrev kFix (w:World):Kd Rec9:=Kd.fixed kdRec w
structure RwA (w X:World) (S1 S2:Nat→Prop) (g1 g2:Nat) (T1 T2:List ByteArray) (va vg:Value) (rows:List (List Int)) (good:List Rec9):Prop where
 t1:Tab X S1 g1 T1
 t2:Tab X S2 g2 T2
 dj: ∀k,S1 k→¬S2 k
 s1: ∀k,S1 k→w.heap.size≤k
 s2: ∀k,S2 k→w.heap.size≤k
 bl:Below w.heap.size w X
 ra:Kd.R kRows 22 X w.heap.size (fun k=>¬S1 k∧¬S2 k) va rows
 rg:Kd.R (kFix w) 49 X w.heap.size (fun k=>¬S1 k∧¬S2 k) vg good
section
variable {w X X':World} {S1 S2:Nat→Prop} {g1 g2:Nat} {T1 T2:List ByteArray} {va vg:Value} {rows:List (List Int)} {good:List Rec9}
theorem RwA.below (h:RwA w X S1 S2 g1 g2 T1 T2 va vg rows good) (hb:Below X.heap.size X X'):RwA w X' S1 S2 g1 g2 T1 T2 va vg rows good:=
 ⟨h.t1.keep (Kp.of_below hb (fun _=>False)) (fun _ _ h=>h),h.t2.keep (Kp.of_below hb (fun _=>False)) (fun _ _ h=>h),h.dj,h.s1,h.s2,h.bl.trans (hb.mono h.bl.size),Kd.R_below h.ra hb,Kd.R_below h.rg hb⟩
end
end Go.Proofs.YtfflenbfapgilaaGreat
namespace Go.Proofs.YtfflenbfapgilaaGreat
open Go.Proofs.YtfflenbfapgilaaGreat.GRR
def recsL (v:Int) (ps:List (List Int)):Nat→List ByteArray→Int→List (Rec9×Int)
 | 0,_,_=>[]
 |f+1,T,a=>if (getF v T ps a).2.2.2=0 then((getF v T ps a).1,(getF v T ps a).2.1)::recsL v ps f (getF v T ps a).2.2.1 (getF v T ps a).2.1 else []
theorem getF_next {v:Int} {T:List ByteArray} {ps:List (List Int)} {a:Int} (h:(getF v T ps a).2.2.2=0): ∃n:Nat,(getF v T ps a).2.1=(n:Int)∧a+1≤(n:Int)∧n≤ps.length∧(getF v T ps a).2.2.1.length≤T.length+18∧0≤a:=by
 unfold getF at h ⊢
 by_cases hv:1≤v∧v≤3
 ·rw [if_neg (fun h=>h hv)]at h ⊢
  by_cases h1:a<0∨(ps.length:Int)<a
  ·rw[if_pos h1]at h
   exact absurd h (show ¬(1:Int)=0 by decide)
  ·rw [if_neg h1]at h ⊢
   have hlen:(defsAt ps a.toNat).length≤ps.length-a.toNat:=by
    unfold defsAt
    have:=(List.takeWhile_sublist (l:=ps.drop a.toNat) isDef).length_le
    rwa [List.length_drop]at this
   dsimp only at h ⊢
   split at h
   ·exact absurd h (show ¬(6:Int)=0 by decide)
   ·rename_i hn
    rw[if_neg hn]
    split at h
    ·rename_i hok
     rw[if_pos hok]
     generalize (lastR v (tnewOn T ((defsAt ps a.toNat).map defS)) (ps.getD (a.toNat+(defsAt ps a.toNat).length) [])).1=r at*
     have hm:mayR v r=true:=putF_yes (v:=v) (T:=T) (r:=r) hok.1
     have M:=may_facts hm
     have hnw:=names_few (x1:=r.2.1) (l:=r.2.2.2.1) (x6:=r.2.2.2.2.2.2) M.t.2 M.n (fun d hd=>(M.d d hd).2.1) M.tag.1
     refine⟨_,rfl,by omega,by omega, ?_,by omega⟩
     have e:=putF_may T hm
     unfold putR at e
     dsimp only
     rw[e]
     dsimp only
     split
     ·have:=tnewOn_len T (tnew (namesL r.2.1 r.2.2.2.1 r.2.2.2.2.2.2));omega
     ·omega
    ·exact absurd h (show ¬(3:Int)=0 by decide)
 ·rw[if_pos hv]at h
  exact absurd h (show ¬(11:Int)=0 by decide)
def rowRw (r2 r6:Option Nat) (i:Nat):Option Nat:=match i with
 | 2=>r2
 | 6=>r6
 |_=>none
theorem rowRw_ne {r2 r6:Option Nat} (i q:Nat) (h2:i≠2∨some q≠r2) (h6:i≠6∨some q≠r6):some q≠rowRw r2 r6 i:=by
 unfold rowRw
 split
 ·exact h2.resolve_left (fun h=>h rfl)
 ·exact h6.resolve_left (fun h=>h rfl)
 ·simp
structure RestRw (r2 r6:Option Nat) (wc X:World):Prop where
 size:wc.heap.size≤X.heap.size
 eq: ∀q,q<wc.heap.size→some q≠r2→some q≠r6→X.heap[q]? =wc.heap[q]?
theorem RestRw.step {r2 r6:Option Nat} {wc X X':World} (h:RestRw r2 r6 wc X) {i:Nat} (hg:X.grownBy X' (rowRw r2 r6 i)) (hs:X.heap.size≤X'.heap.size):RestRw r2 r6 wc X':=
 ⟨Nat.le_trans h.size hs,fun q hq h2 h6=>(hg.block q (Nat.lt_of_lt_of_le hq h.size) (rowRw_ne i q (.inr h2) (.inr h6))).trans (h.eq q hq h2 h6)⟩
theorem R_not {α:Type} {d:Kd α} {e base:Nat} {ok:Nat→Prop} {W:World} {v:Value} {xs:List α} (h:d.R e W base ok v xs) (r:Option Nat) (hr: ∀k,r=some k→∃C t,W.heap[k]? =some (.cells C t (0,0))∧∀q,q∈e::d.E→q≠t):d.R e W base (fun k=>ok k∧some k≠r) v xs:=by
 cases r with
 |none=>exact Kd.R_mono h (fun k hk=>⟨hk,by simp⟩)
 |some b=>
  obtain⟨C,t,hC,ht⟩:=hr b rfl
  exact Kd.R_mono (Kd.R_types h hC ht) (fun k hk=>⟨hk.1,by simpa using hk.2⟩)
theorem rsame_any (k0:Int) (x1:ByteArray) (x2:Int) (ds:List S129) (x4 x5:Int) (x6:ByteArray) (A3 A4:Option Addr) (c3 c4:Nat) (w:World) (hA3:Kd.C k129 w A3 ds.length ds) (hA4:Kd.C k129 w A4 ds.length ds):
  Calls Tryz.prog 31 #[.agg #[.int .i64 k0,.string x1,.int .u64 x2,.slice A3 ds.length c3,.int .u64 x4,.int .u64 x5,.string x6],.agg #[.int .i64 k0,.string x1,.int .u64 x2,.slice A4 ds.length c4,.int .u64 x4,.int .u64 x5,.string x6]] w fun e w'=>e= .returned (.bool true)∧Below w.heap.size w w':=by
 have hm:=hA3.2.1
 obtain⟨w1,hw1⟩:=eX ((w.alloc (.cells #[.int .i64 k0,.string x1,.int .u64 x2,.slice A3 ds.length c3,.int .u64 x4,.int .u64 x5,.string x6] 49)).alloc (.cells #[.int .i64 k0,.string x1,.int .u64 x2,.slice A4 ds.length c4,.int .u64 x4,.int .u64 x5,.string x6] 49))
 have hb1:Below w.heap.size w w1:=by rw[←hw1];exact((Below.refl _ _).alloc (Nat.le_refl _) _).alloc (by rw[heap_size_alloc];omega) _
 have k2:w1.heap[w.heap.size]? =some (.cells #[.int .i64 k0,.string x1,.int .u64 x2,.slice A3 ds.length c3,.int .u64 x4,.int .u64 x5,.string x6] 49 (0,0)):=by rw[←hw1];exact blk_alloc (heap_new _ _) _
 have k3:w1.heap[w.heap.size+1]? =some (.cells #[.int .i64 k0,.string x1,.int .u64 x2,.slice A4 ds.length c4,.int .u64 x4,.int .u64 x5,.string x6] 49 (0,0)):=by
  rw[←hw1]
  have:=heap_new (w.alloc (.cells #[.int .i64 k0,.string x1,.int .u64 x2,.slice A3 ds.length c3,.int .u64 x4,.int .u64 x5,.string x6] 49)) (.cells #[.int .i64 k0,.string x1,.int .u64 x2,.slice A4 ds.length c4,.int .u64 x4,.int .u64 x5,.string x6] 49)
  rwa [heap_size_alloc]at this
 obtain⟨b2,hbb⟩:=eX (w.heap.size)
 rw[hbb]at k2 k3
 have HA3:=hQ hA3
 have HA4:=hQ hA4
 have HB1:=hQ hb1
 have HW1:=hQ hw1
 have HK2:=hQ k2
 have HK3:=hQ k3
 have HBB:=hQ hbb
 clear hA3 hA4 hb1 hw1 k2 k3 hbb
 go_enter Tryz.func31,Tryz.ntmps31
 go_wp2_with fail
 rw[HW1.out,HBB.out]
 go_loopw [5] (fun u wr=>∃(i:Nat),i≤ds.length∧u= .int .i64 (i:Int)∧Hid (Below w1.heap.size w1 wr)) (fun u _=>ds.length-(intOf u).toNat)
 case atStart=>exact⟨0,by omega,rfl,hQ (Below.refl _ _)⟩
 case round=>
  obtain⟨i,hi,rfl,HB⟩:=hrel
  have hk2:=blk_below HK2.out HB.out
  have s3:=bcl hk2 3 rfl
  by_cases hlt:i<ds.length
  ·have hdl:decide ((i:Int)<(ds.length:Int))=true:=decide_eq_true (by omega)
   have hbw:=HB1.out.trans (HB.out.mono HB1.out.size)
   obtain⟨ad3,h3,g0,g1,g2⟩:=at_T129 (Kd.C_below HA3.out hbw) (i:Int) (by omega) (by omega)
   obtain⟨ad4,h4,q0,q1,q2⟩:=at_T129 (Kd.C_below HA4.out hbw) (i:Int) (by omega) (by omega)
   subst h3 h4
   rw[rd_dep ds i hlt,Int.toNat_natCast]at g0 g1 g2 q0 q1 q2
   generalize ds[i]=d at g0 g1 g2 q0 q1 q2
   obtain⟨d0,d1,d2⟩:=d
   dsimp only at g0 g1 g2 q0 q1 q2
   have hk3:=blk_below HK3.out HB.out
   have u3:wr.cell? ⟨b2+1,3,none⟩=some (.slice (some ad4) ds.length c4):=(blk_cell hk3 3).trans rfl
   clear hk2 hk3 hbw
   go_wp2_with fail
   go_quiet (fail)
   go_wp2_with fail
   go_roundw
   case rel=>exact⟨i+1,by omega,by go_num,hQ (pw_below_drewN HB.out _)⟩
   case measure=>simp[intOf];omega
  ·obtain rfl:i=ds.length:=by omega
   clear hk2
   go_wp2_with fail
   go_ret
   exact⟨rfl,HB1.out.trans (HB.out.mono HB1.out.size)⟩
theorem getF_facts {v:Int} {T:List ByteArray} {ps:List (List Int)} {at0:Int} (hT:T.length≤50000) (hd:T.Nodup) (hs: ∀s∈T,s.size≤maxLen) (hps: ∀p∈ps,p.length≤3000∧∀x∈p,0≤x∧x<256):
  ((getF v T ps at0).2.2.2≠0→(getF v T ps at0).1=rec0)∧((getF v T ps at0).2.2.2=0→∃a n:Nat,at0=(a:Int)∧(getF v T ps at0).2.1=(n:Int)∧a≤n∧n≤ps.length∧putR v T (getF v T ps at0).1=((ps.take n).drop a,(getF v T ps at0).2.2.1,0)∧GoodR v (getF v T ps at0).1):=by
 unfold getF
 by_cases hv:1≤v∧v≤3
 ·rw [if_neg (fun h=>h hv)]
  by_cases h1:at0<0∨(ps.length:Int)<at0
  ·rw[if_pos h1]
   exact⟨fun _=>rfl,fun h=>absurd h (show ¬(1:Int)=0 by decide)⟩
  ·rw [if_neg h1]
   obtain⟨a,rfl⟩: ∃a:Nat,at0=(a:Int):=⟨at0.toNat,by omega⟩
   rw[Int.toNat_natCast]
   obtain⟨ds,hds⟩:=eX (defsAt ps a)
   have hl:ds.length≤ps.length-a:=by
    rw[←hds];unfold defsAt
    have:=(List.takeWhile_sublist isDef (l:=ps.drop a)).length_le
    rw[List.length_drop]at this
    exact this
   rw[hds]
   dsimp only
   by_cases h2:a+ds.length=ps.length
   ·rw[if_pos h2]
    exact⟨fun _=>rfl,fun h=>absurd h (show ¬(6:Int)=0 by decide)⟩
   ·rw [if_neg h2]
    obtain⟨al,hal⟩:=eX (tnewOn T (ds.map defS))
    have hsz: ∀s∈al,s.size≤maxLen:=by
     intro s hsm
     rw[←hal,mem_tnewOn]at hsm
     rcases hsm with hsm|hsm
     ·exact hs s hsm
     ·obtain ⟨q,hq,rfl⟩:=List.mem_map.1 hsm
      have hqm:q∈ps:=by
       rw[←hds]at hq
       exact List.mem_of_mem_drop ((List.takeWhile_sublist _).subset hq)
      unfold defS
      rw[strOfNums_size,List.length_tail]
      have:=(hps q hqm).1
      simp only[maxLen]
      omega
    have hpm:ps.getD (a+ds.length) []∈ps:=by
     have e:ps.getD (a+ds.length) []=ps[a+ds.length]'(by omega):=by simp[show a+ds.length<ps.length by omega]
     rw[e];exact List.getElem_mem _
    have hrg:=lastR_rg (v:=v) (T:=al) (l:=ps.getD (a+ds.length) []) hsz (hps _ hpm).2 (by have:=(hps _ hpm).1;omega)
    rw[hal]
    generalize (lastR v al (ps.getD (a+ds.length) [])).1=r at hrg
    split
    ·rename_i h3
     refine⟨fun h=>absurd rfl h,fun _=>⟨a,a+ds.length+1,rfl,rfl,by omega,by omega, ?_, ?_⟩⟩
     ·have e:(ps.take (a+ds.length+1)).drop a=(ps.drop a).take (ds.length+1):=by rw[List.drop_take];congr 1;omega
      rw[e]
      unfold putR
      dsimp only
      rw[←h3.2,←h3.1]
     ·exact⟨putF_yes (T:=T) h3.1,hrg.r2,hrg.o,hrg.w,fun d hd=>(hrg.d d hd).2⟩
    ·exact⟨fun _=>rfl,fun h=>absurd h (show ¬(3:Int)=0 by decide)⟩
 ·rw[if_pos hv]
  exact⟨fun _=>rfl,fun h=>absurd h (show ¬(11:Int)=0 by decide)⟩
def lastK (v:Int) (T:List ByteArray) (l:List Int) (k a e:Int):Rec9×Int×Int:=
 if k=1 then traceR v T l k (textR v T l a e).1 (textR v T l a e).2.1 (textR v T l a e).2.2 else((k,(textR v T l a e).1,0,[],0,0,⟨#[]⟩),(textR v T l a e).2)
theorem lastR_K (v:Int) (T:List ByteArray) (l:List Int):lastR v T l=lastK v T l (cuByte l 0 0).1 (cuByte l 0 0).2.1 (cuByte l 0 0).2.2:=rfl
def lastW (v:Int) (T:List ByteArray) (l:List Int):Rec9×Bool:=
 if (cuNum l 0 0).2.2≠0∨((cuNum l 0 0).1≠1∧(cuNum l 0 0).1≠2)then(rec0,false)
 else((lastK v T l (cuNum l 0 0).1 (cuNum l 0 0).2.1 (cuNum l 0 0).2.2).1,decide (pl (lastK v T l (cuNum l 0 0).1 (cuNum l 0 0).2.1 (cuNum l 0 0).2.2).2.1 (lastK v T l (cuNum l 0 0).1 (cuNum l 0 0).2.1 (cuNum l 0 0).2.2).2.2=(l.length:Int)))
def RLastPost (W:World) (F:Rec9×Bool) (e:Ending) (W':World):Prop:=
 ∃dv,e= .returned (.tuple #[.agg #[.int .i64 F.1.1,.string F.1.2.1,.int .u64 F.1.2.2.1,dv,.int .u64 F.1.2.2.2.2.1,.int .u64 F.1.2.2.2.2.2.1,.string F.1.2.2.2.2.2.2],.bool F.2])∧Kd.R k129 129 W' W.heap.size (fun _=>True) dv F.1.2.2.2.1∧Below W.heap.size W W'
structure LW (w X:World) (b:Nat) (s:ByteArray) (A:Option Addr) (n c:Nat) (p k:Int) (x1:ByteArray) (x2:Int) (dv:Value) (ds:List S129) (x4 x5:Int) (x6:ByteArray):Prop where
 k6:X.heap[b]? =some (.cells #[.int .i64 0,.string ⟨#[]⟩,.int .u64 0,.slice none 0 0,.int .u64 0,.int .u64 0,.string ⟨#[]⟩] 49 (0,0))
 k8:X.heap[b+1]? =some (.cells #[.string s,.int .i64 p,.slice A n c] 118 (0,0))
 k9:X.heap[b+1+1]? =some (.cells #[.int .i64 k,.string x1,.int .u64 x2,dv,.int .u64 x4,.int .u64 x5,.string x6] 49 (0,0))
 row:Kd.R k129 129 X (b+3) (fun _=>True) dv ds
 bl:Below w.heap.size w X
 bw:w.heap.size=b
section
variable {w X X':World} {b:Nat} {s:ByteArray} {A:Option Addr} {n c:Nat} {p k:Int} {x1:ByteArray} {x2:Int} {dv:Value} {ds:List S129} {x4 x5:Int} {x6:ByteArray}
theorem LW.below (h:LW w X b s A n c p k x1 x2 dv ds x4 x5 x6) (hb:Below X.heap.size X X'):LW w X' b s A n c p k x1 x2 dv ds x4 x5 x6:=
 ⟨blk_below h.k6 hb,blk_below h.k8 hb,blk_below h.k9 hb,Kd.R_below h.row hb,h.bl.trans (hb.mono h.bl.size),h.bw⟩
theorem LW.walk (h:LW w X b s A n c p k x1 x2 dv ds x4 x5 x6) (q:Int):LW w (((X.setCell ⟨b+1,0,none⟩ (.string s)).setCell ⟨b+1,1,none⟩ (.int .i64 q)).setCell ⟨b+1,2,none⟩ (.slice A n c)) b s A n c q k x1 x2 dv ds x4 x5 x6:=
 ⟨(heap_put3 _ (by omega) _ _ _).trans h.k6,blk_put3 h.k8 _ _ _,(heap_put3 _ (by omega) _ _ _).trans h.k9,Kd.R_mono (Kd.R_step (Kd.R_bound h.row) (fun q hq _=>heap_put3 _ (by have:=hq.2.1;omega) _ _ _)) (fun _ _=>trivial),below_put3 h.bl (by have:=h.bw;omega) _ _ _,h.bw⟩
theorem LW.field (h:LW w X b s A n c p k x1 x2 dv ds x4 x5 x6) (i:Nat) (u:Value) {k':Int} {x1':ByteArray} {x2':Int} {dv':Value} {ds':List S129} {x4' x5':Int} {x6':ByteArray} (hR:Kd.R k129 129 X (b+3) (fun _=>True) dv' ds')
  (hc:(#[.int .i64 k,.string x1,.int .u64 x2,dv,.int .u64 x4,.int .u64 x5,.string x6]:Array Value).setIfInBounds i u=#[.int .i64 k', .string x1', .int .u64 x2',dv', .int .u64 x4', .int .u64 x5', .string x6']):LW w (X.setCell ⟨b+1+1,i,none⟩ u) b s A n c p k' x1' x2' dv' ds' x4' x5' x6':=
 ⟨(Below.heap_setCell _ _ _ _ (by show b≠b+1+1;omega)).trans h.k6,(Below.heap_setCell _ _ _ _ (by show b+1≠b+1+1;omega)).trans h.k8,blk_put h.k9 i u hc,Kd.R_mono (Kd.R_step (Kd.R_bound hR) (fun q hq _=>Below.heap_setCell _ _ _ _ (by have:=hq.2.1;show q≠b+1+1;omega))) (fun _ _=>trivial),h.bl.setCell (p:=⟨b+1+1,i,none⟩) (by have:=h.bw;show w.heap.size≤b+1+1;omega) _,h.bw⟩
end
theorem textR_place {v:Int} {T:List ByteArray} {l:List Int} (hb: ∀x∈l,0≤x∧x<256) (a e:Int) (ha:0≤a∧a≤l.length):0≤(textR v T l a e).2.1∧(textR v T l a e).2.1≤l.length:=by
 unfold textR txR
 split
 ·have h:=cuText_step l hb 64 a e ha
  exact⟨by omega,h.1⟩
 ·have h:=cuNum_step l hb a e ha
  exact⟨by show 0≤(cuNum l a e).2.1;omega,h.1⟩
theorem wdeps_is (v:Int) {l:List Int} (hb: ∀x∈l,0≤x∧x<256) (hl:l.length≤1000000) (a e:Int) (ha:0≤a∧a≤l.length) (A:Option Addr) (c:Nat) (T:List ByteArray) (hT:T.length≤1000000) (N:Int) (hN:0≤N∧N<18446744073709551616) (w:World) (hC:Kd.C Kd.string w A T.length T):
  Calls Tryz.prog 54 #[.agg #[.string (strOfNums l),.int .i64 (pl a e),.slice A T.length c],.int .i64 v,.int .u64 N] w fun en w'=>∃dv,en= .returned (.tuple #[dv,.agg #[.string (strOfNums l),.int .i64 (pl (depsL v T l (l.length+2) N a e []).2.1 (depsL v T l (l.length+2) N a e []).2.2),.slice A T.length c]])∧Kd.R k129 129 w' w.heap.size (fun _=>True) dv (depsL v T l (l.length+2) N a e []).1∧Below w.heap.size w w':=by
 by_cases hv:v<3
 ·exact wdeps_lo v hv hb hl a e ha A c T hT N hN w hC
 ·exact wdeps_hi v (by omega) hb hl a e ha A c T hT N hN w hC
theorem wlast_bad (v:Int) {l:List Int} (hb: ∀x∈l,0≤x∧x<256) (hl:l.length≤1000000) (A:Option Addr) (c:Nat) (T:List ByteArray) (hT:T.length≤1000000) (w:World) (hC:Kd.C Kd.string w A T.length T) (hbd: ∀{k a1 e1:Int},cuNum l 0 0=(k,a1,e1)→e1≠0∨(k≠1∧k≠2)):
  Calls Tryz.prog 29 #[.int .i64 v,.slice A T.length c,.string (strOfNums l)] w (RLastPost w (lastW v T l)):=by
 have HNU:=hQ (fun(a e:Int) (W:World)=>wnum_is hb hl a e A T.length c W)
 have HNM:=hQ (fun(a e:Int) (W:World) (h:Below w.heap.size w W)=>wname_is v hb hl a e A c T hT W (Kd.C_below hC h))
 have HKN:=hQ (fun(a e m:Int) (hm:0≤m∧m<18446744073709551616) (W:World) (h:Below w.heap.size w W)=>wknown_is (strOfNums l) a e A c T hT m hm W (Kd.C_below hC h))
 have HDE:=hQ (fun(a e m:Int) (ha:0≤a∧a≤(l.length:Int)) (hm:0≤m∧m<18446744073709551616) (W:World) (h:Below w.heap.size w W)=>wdeps_is v hb hl a e ha A c T hT m hm W (Kd.C_below hC h))
 have hss:(strOfNums l).size=l.length:=strOfNums_size l
 obtain⟨s,hs⟩:=eX (strOfNums l)
 rw[hs]at HNU HNM HKN HDE hss ⊢
 have HN0:=hQ (HNU.out 0 0)
 have hst0:=cuNum_step l hb 0 0 ⟨by omega,by omega⟩
 obtain⟨F,hF⟩:=eX (lastW v T l)
 rw[hF]
 have HF:=hQ hF
 unfold lastW at hF
 have HBY:=hQ hb
 clear hC hs hb
 obtain⟨w1,hw1⟩:=eX (((w.alloc (.cells #[.int .i64 0,.string ⟨#[]⟩,.int .u64 0,.slice none 0 0,.int .u64 0,.int .u64 0,.string ⟨#[]⟩] 49)).alloc (.cells #[.string s,.int .i64 0,.slice A T.length c] 118)).alloc (.cells #[.int .i64 0,.string ⟨#[]⟩,.int .u64 0,.slice none 0 0,.int .u64 0,.int .u64 0,.string ⟨#[]⟩] 49))
 have hb1:Below w.heap.size w w1:=by rw[←hw1];exact(((Below.refl _ _).alloc (Nat.le_refl _) _).alloc (by rw[heap_size_alloc];omega) _).alloc (by rw[heap_size_alloc,heap_size_alloc];omega) _
 have hk6:w1.heap[w.heap.size]? =some (.cells #[.int .i64 0,.string ⟨#[]⟩,.int .u64 0,.slice none 0 0,.int .u64 0,.int .u64 0,.string ⟨#[]⟩] 49 (0,0)):=by rw[←hw1];exact blk_alloc (blk_alloc (heap_new _ _) _) _
 have hk8:w1.heap[w.heap.size+1]? =some (.cells #[.string s,.int .i64 0,.slice A T.length c] 118 (0,0)):=by
  rw[←hw1]
  have:=heap_new (w.alloc (.cells #[.int .i64 0,.string ⟨#[]⟩,.int .u64 0,.slice none 0 0,.int .u64 0,.int .u64 0,.string ⟨#[]⟩] 49)) (.cells #[.string s,.int .i64 0,.slice A T.length c] 118)
  rw[heap_size_alloc]at this
  exact blk_alloc this _
 have hk9:w1.heap[w.heap.size+2]? =some (.cells #[.int .i64 0,.string ⟨#[]⟩,.int .u64 0,.slice none 0 0,.int .u64 0,.int .u64 0,.string ⟨#[]⟩] 49 (0,0)):=by
  rw[←hw1]
  have:=heap_new ((w.alloc (.cells #[.int .i64 0,.string ⟨#[]⟩,.int .u64 0,.slice none 0 0,.int .u64 0,.int .u64 0,.string ⟨#[]⟩] 49)).alloc (.cells #[.string s,.int .i64 0,.slice A T.length c] 118)) (.cells #[.int .i64 0,.string ⟨#[]⟩,.int .u64 0,.slice none 0 0,.int .u64 0,.int .u64 0,.string ⟨#[]⟩] 49)
  rwa [heap_size_alloc,heap_size_alloc]at this
 obtain⟨b,hbb⟩:=eX (w.heap.size)
 rw[hbb]at hk6 hk8 hk9
 have HL1:Hid (LW w w1 b s A T.length c 0 0 ⟨#[]⟩ 0 (.slice none 0 0) [] 0 0 ⟨#[]⟩):=hQ ⟨hk6,hk8,hk9,Kd.R_nil _ _ _ _ _,hb1,hbb⟩
 have HW1:=hQ hw1
 have HBB:=hQ hbb
 have HU:=hQ Tryz.underlying49
 rw[show pl 0 0=0 from rfl]at HN0
 clear hk6 hk8 hk9 hb1 hw1 hbb
 generalize hN1:cuNum l 0 0=N1 at hF HN0 hst0
 obtain⟨k,a1,e1⟩:=N1
 dsimp only at hF HN0 hst0
 have hbad:e1≠0∨(k≠1∧k≠2):=hbd hN1
 rw[if_pos hbad]at hF
 have HEQ:=hQ hF
 have HBD:=hQ hbad
 have HPN:=hQ (show decide (pl a1 e1<0)=decide (e1≠0)by
  unfold pl
  by_cases h:e1=0
  ·rw[if_pos h,decide_eq_false (by omega),decide_eq_false (by simpa using h)]
  ·rw[if_neg h,decide_eq_true (by omega),decide_eq_true h])
 have hn0:=HN0.out
 generalize pl a1 e1=p1 at hn0 HPN
 replace HN0:=hQ hn0
 clear hF hbad hbd hn0
 go_enter Tryz.func29,Tryz.ntmps29
 go_wp2_with fail
 rw[HW1.out,HBB.out]
 refine(HN0.out w1).mono ?_
 rintro en y1 ⟨rfl,hb⟩
 have hl0:=HL1.out.below hb
 have hl1:=hl0
 obtain⟨wx0,wxf0,wx1,wxf1,wx2,wxf2⟩:=wf6 hl1.k8
 have hl2:=hl1.walk p1
 obtain⟨d0,d1,d2⟩:=wf3 hl2.k8
 obtain⟨o0,of0,o1,of1,o2,of2,o3,of3,o4,of4,o5,of5,o6,of6⟩:=facts7f hl2.k6
 obtain⟨r0,r1,r2,r3,r4,r5,r6⟩:=facts7 hl2.k9
 obtain⟨z1,hz⟩:=eX ((((y1.setCell ⟨b+1,0,none⟩ (.string s)).setCell ⟨b+1,1,none⟩ (.int .i64 p1)).setCell ⟨b+1,2,none⟩ (.slice A T.length c)))
 rw[hz]at hl2
 have HLz1:=hQ hl2
 have HWz1:=hQ hz
 clear hb hl0 hl1 hl2 hz
 by_cases he:e1=0
 ·have h1:=HPN.out
  rw[decide_eq_false (show ¬e1≠0 by simpa using he)]at h1
  have hkk:=HBD.out
  have hk1:(k !=1)=true:=by simp;omega
  have hk2:(k !=2)=true:=by simp;omega
  go_wp2_with fail
  rw[HWz1.out]
  refine bodyPost_ret (results_ct rfl _ _ b 49 #[_,_,_,_,_,_,_] (0,0) _ rfl (blk_put7 HLz1.out.k6 _ _ _ _ _ _ _) HU.out rfl (by kernel_rfl)) rfl ?_
  rw[←HEQ.out]
  exact⟨_,rfl,Kd.R_nil _ _ _ _ _,below_put7 HLz1.out.bl (by have:=HBB.out;omega) _ _ _ _ _ _ _⟩
 ·have h1:=HPN.out
  rw[decide_eq_true he]at h1
  go_wp2_with fail
  rw[HWz1.out]
  refine bodyPost_ret (results_ct rfl _ _ b 49 #[_,_,_,_,_,_,_] (0,0) _ rfl (blk_put7 HLz1.out.k6 _ _ _ _ _ _ _) HU.out rfl (by kernel_rfl)) rfl ?_
  rw[←HEQ.out]
  exact⟨_,rfl,Kd.R_nil _ _ _ _ _,below_put7 HLz1.out.bl (by have:=HBB.out;omega) _ _ _ _ _ _ _⟩
theorem wlast_g2 (v:Int) {l:List Int} (hb: ∀x∈l,0≤x∧x<256) (hl:l.length≤1000000) (A:Option Addr) (c:Nat) (T:List ByteArray) (hT:T.length≤1000000) (w:World) (hC:Kd.C Kd.string w A T.length T) (hgd: ∀{k a1 e1:Int},cuNum l 0 0=(k,a1,e1)→k=2∧e1=0):
  Calls Tryz.prog 29 #[.int .i64 v,.slice A T.length c,.string (strOfNums l)] w (RLastPost w (lastW v T l)):=by
 have HNU:=hQ (fun(a e:Int) (W:World)=>wnum_is hb hl a e A T.length c W)
 have HNM:=hQ (fun(a e:Int) (W:World) (h:Below w.heap.size w W)=>wname_is v hb hl a e A c T hT W (Kd.C_below hC h))
 have HKN:=hQ (fun(a e m:Int) (hm:0≤m∧m<18446744073709551616) (W:World) (h:Below w.heap.size w W)=>wknown_is (strOfNums l) a e A c T hT m hm W (Kd.C_below hC h))
 have HDE:=hQ (fun(a e m:Int) (ha:0≤a∧a≤(l.length:Int)) (hm:0≤m∧m<18446744073709551616) (W:World) (h:Below w.heap.size w W)=>wdeps_is v hb hl a e ha A c T hT m hm W (Kd.C_below hC h))
 have hss:(strOfNums l).size=l.length:=strOfNums_size l
 obtain⟨s,hs⟩:=eX (strOfNums l)
 rw[hs]at HNU HNM HKN HDE hss ⊢
 have HN0:=hQ (HNU.out 0 0)
 have hst0:=cuNum_step l hb 0 0 ⟨by omega,by omega⟩
 obtain⟨F,hF⟩:=eX (lastW v T l)
 rw[hF]
 have HF:=hQ hF
 unfold lastW at hF
 have HBY:=hQ hb
 clear hC hs hb
 obtain⟨w1,hw1⟩:=eX (((w.alloc (.cells #[.int .i64 0,.string ⟨#[]⟩,.int .u64 0,.slice none 0 0,.int .u64 0,.int .u64 0,.string ⟨#[]⟩] 49)).alloc (.cells #[.string s,.int .i64 0,.slice A T.length c] 118)).alloc (.cells #[.int .i64 0,.string ⟨#[]⟩,.int .u64 0,.slice none 0 0,.int .u64 0,.int .u64 0,.string ⟨#[]⟩] 49))
 have hb1:Below w.heap.size w w1:=by rw[←hw1];exact(((Below.refl _ _).alloc (Nat.le_refl _) _).alloc (by rw[heap_size_alloc];omega) _).alloc (by rw[heap_size_alloc,heap_size_alloc];omega) _
 have hk6:w1.heap[w.heap.size]? =some (.cells #[.int .i64 0,.string ⟨#[]⟩,.int .u64 0,.slice none 0 0,.int .u64 0,.int .u64 0,.string ⟨#[]⟩] 49 (0,0)):=by rw[←hw1];exact blk_alloc (blk_alloc (heap_new _ _) _) _
 have hk8:w1.heap[w.heap.size+1]? =some (.cells #[.string s,.int .i64 0,.slice A T.length c] 118 (0,0)):=by
  rw[←hw1]
  have:=heap_new (w.alloc (.cells #[.int .i64 0,.string ⟨#[]⟩,.int .u64 0,.slice none 0 0,.int .u64 0,.int .u64 0,.string ⟨#[]⟩] 49)) (.cells #[.string s,.int .i64 0,.slice A T.length c] 118)
  rw[heap_size_alloc]at this
  exact blk_alloc this _
 have hk9:w1.heap[w.heap.size+2]? =some (.cells #[.int .i64 0,.string ⟨#[]⟩,.int .u64 0,.slice none 0 0,.int .u64 0,.int .u64 0,.string ⟨#[]⟩] 49 (0,0)):=by
  rw[←hw1]
  have:=heap_new ((w.alloc (.cells #[.int .i64 0,.string ⟨#[]⟩,.int .u64 0,.slice none 0 0,.int .u64 0,.int .u64 0,.string ⟨#[]⟩] 49)).alloc (.cells #[.string s,.int .i64 0,.slice A T.length c] 118)) (.cells #[.int .i64 0,.string ⟨#[]⟩,.int .u64 0,.slice none 0 0,.int .u64 0,.int .u64 0,.string ⟨#[]⟩] 49)
  rwa [heap_size_alloc,heap_size_alloc]at this
 obtain⟨b,hbb⟩:=eX (w.heap.size)
 rw[hbb]at hk6 hk8 hk9
 have HL1:Hid (LW w w1 b s A T.length c 0 0 ⟨#[]⟩ 0 (.slice none 0 0) [] 0 0 ⟨#[]⟩):=hQ ⟨hk6,hk8,hk9,Kd.R_nil _ _ _ _ _,hb1,hbb⟩
 have HW1:=hQ hw1
 have HBB:=hQ hbb
 have HU:=hQ Tryz.underlying49
 rw[show pl 0 0=0 from rfl]at HN0
 clear hk6 hk8 hk9 hb1 hw1 hbb
 generalize hN1:cuNum l 0 0=N1 at hF HN0 hst0
 obtain⟨k,a1,e1⟩:=N1
 dsimp only at hF HN0 hst0
 obtain⟨rfl,rfl⟩:=hgd hN1
 rw[if_neg (by omega)]at hF
 clear hgd
 unfold lastK at hF
 rw[if_neg (by omega)]at hF
 have c1:=HNM.out a1 0
 have s1:=textR_place (v:=v) (T:=T) HBY.out a1 0 ⟨by omega,hst0.1⟩
 generalize textR v T l a1 0=X1 at hF c1 s1
 obtain⟨x1,a2,e2⟩:=X1
 dsimp only at hF c1 s1
 try dsimp only at hF
 have hp1:decide (pl a1 0<0)=false:=by unfold pl;rw[if_pos rfl];exact decide_eq_false (by omega)
 have hn0:=HN0.out
 generalize pl a1 0=p1 at hF hn0 c1 hp1
 generalize pl a2 e2=p2 at hF hn0 c1
 have HEQ:=hQ hF
 have C1:=hQ c1
 replace HN0:=hQ hn0
 clear hF hN1 hst0 hn0 c1 s1
 have hkw:IntKind.i64.wrap 2=2:=by rw[IntKind.wrap_i64];omega
 go_enter Tryz.func29,Tryz.ntmps29
 go_wp2_with fail
 rw[HW1.out,HBB.out]
 refine(HN0.out w1).mono ?_
 rintro en y1 ⟨rfl,hb⟩
 have hl0:=HL1.out.below hb
 have hl1:=hl0
 obtain⟨wx0,wxf0,wx1,wxf1,wx2,wxf2⟩:=wf6 hl1.k8
 have hl2:=hl1.walk p1
 obtain⟨d0,d1,d2⟩:=wf3 hl2.k8
 have m0:(((y1.setCell ⟨b+1,0,none⟩ (.string s)).setCell ⟨b+1,1,none⟩ (.int .i64 p1)).setCell ⟨b+1,2,none⟩ (.slice A T.length c)).cell? ⟨b+1+1,0,none⟩=some (.int .i64 0):=(blk_cell hl2.k9 0).trans rfl
 have mf0:=blk_frozen hl2.k9 0
 have hl2:=hl2.field 0 (.int .i64 2) (k':=2) (x1':=⟨#[]⟩) (x2':=0) (dv':= .slice none 0 0) (ds':=[]) (x4':=0) (x5':=0) (x6':=⟨#[]⟩) hl2.row rfl
 obtain⟨n0,n1,n2⟩:=wf3 hl2.k8
 obtain⟨z1,hz⟩:=eX (((((y1.setCell ⟨b+1,0,none⟩ (.string s)).setCell ⟨b+1,1,none⟩ (.int .i64 p1)).setCell ⟨b+1,2,none⟩ (.slice A T.length c)).setCell ⟨b+1+1,0,none⟩ (.int .i64 2)))
 rw[hz]at hl2
 have HLz1:=hQ hl2
 have HWz1:=hQ hz
 clear hb hl0 hl1 hl2 hz
 go_wp2_with fail
 clear wx0 wxf0 wx1 wxf1 wx2 wxf2 d0 d1 d2 m0 mf0 n0 n1 n2
 rw[HWz1.out]
 refine(C1.out _ HLz1.out.bl).mono ?_
 rintro en y2 ⟨rfl,hb⟩
 have hl0:=HLz1.out.below hb
 have g1:y2.cell? ⟨b+1+1,1,none⟩=some (.string ⟨#[]⟩):=(blk_cell hl0.k9 1).trans rfl
 have gf1:=blk_frozen hl0.k9 1
 have hl1:=hl0.field 1 (.string x1) (k':=2) (x1':=x1) (x2':=0) (dv':= .slice none 0 0) (ds':=[]) (x4':=0) (x5':=0) (x6':=⟨#[]⟩) hl0.row rfl
 obtain⟨wx0,wxf0,wx1,wxf1,wx2,wxf2⟩:=wf6 hl1.k8
 have hl2:=hl1.walk p2
 obtain⟨d0,d1,d2⟩:=wf3 hl2.k8
 obtain⟨z2,hz⟩:=eX (((((y2.setCell ⟨b+1+1,1,none⟩ (.string x1)).setCell ⟨b+1,0,none⟩ (.string s)).setCell ⟨b+1,1,none⟩ (.int .i64 p2)).setCell ⟨b+1,2,none⟩ (.slice A T.length c)))
 rw[hz]at hl2
 have HLz2:=hQ hl2
 have HWz2:=hQ hz
 clear hb hl0 hl1 hl2 hz
 go_wp2_with fail
 clear wx0 wxf0 wx1 wxf1 wx2 wxf2 d0 d1 d2 g1 gf1
 rw[HWz2.out]
 have hl9:=HLz2.out
 obtain⟨pp,hpp⟩:=eX (p2)
 rw[hpp]at hl9
 have heq:=HEQ.out
 rw[hpp]at heq
 have HL9:=hQ hl9
 have HPP:=hQ hpp
 obtain⟨ok,hok⟩:=eX (decide (pp=(l.length:Int)))
 have hok2:(pp==(l.length:Int))=ok:=by rw[←hok,Bool.eq_iff_iff];simp
 rw[hok]at heq
 have HEQ2:=hQ heq
 clear heq
 have HOK:=hQ (And.intro hok hok2)
 have kT1:=And.intro hl9.k8 (And.intro hl9.k9 (Kd.R_mono (ok':=fun k=>k≠b) (Kd.R_bound hl9.row) (fun k hk=>by have:=hk.2.1;omega)))
 have kT3:=hl9.k6
 have hsz:=hl9.bl.size
 have hb3w:=HBB.out
 clear hl9 hpp hok hok2
 refine region_one (n:=8) (base:=w.heap.size) (w0:=w) (b:=b) (jw:=6) (byList [isV (.agg #[.int .i64 2,.string x1,.int .u64 0,.slice none 0 0,.int .u64 0,.int .u64 0,.string ⟨#[]⟩]),isV (.pointer (some ⟨b+1,1,none⟩)),isV (.int .i64 pp),isV (.string s),isV (.int .i64 (l.length:Int)),isV (.bool ok),(fun _ _=>True),isV (.bool ok)]) (fun W=>W.heap[b+1]? =some (.cells #[.string s,.int .i64 pp,.slice A T.length c] 118 (0,0))∧W.heap[b+1+1]? =some (.cells #[.int .i64 2,.string x1,.int .u64 0,.slice none 0 0,.int .u64 0,.int .u64 0,.string ⟨#[]⟩] 49 (0,0))∧Kd.R k129 129 W (b+3) (fun k=>k≠b) (.slice none 0 0) ([])) (fun W=>W.heap[b]? =some (.cells #[.int .i64 0,.string ⟨#[]⟩,.int .u64 0,.slice none 0 0,.int .u64 0,.int .u64 0,.string ⟨#[]⟩] 49 (0,0))) (fun W=>W.heap[b]? =some (.cells #[.int .i64 2,.string x1,.int .u64 0,.slice none 0 0,.int .u64 0,.int .u64 0,.string ⟨#[]⟩] 49 (0,0))) (by kernel_rfl) rfl (by omega) (byList_any ?_) (by kernel_rfl) (by kernel_rfl) (by omega) (fun W W' row hrow h hg=>⟨blk_grown' h.1 hg (by rcases hrow with rfl|rfl<;>simp<;>omega),blk_grown' h.2.1 hg (by rcases hrow with rfl|rfl<;>simp<;>omega),Kd.R_grown h.2.2 hg (fun k hk=>by rcases hrow with rfl|rfl<;>simp;omega)⟩) (fun W W' h hg=>blk_below h (below_none hg)) (fun W W' h hg=>blk_below h (below_none hg)) HL9.out.bl (Nat.le_refl _) kT1 kT3 (show AllLt 8 _ from ?_) ?_
 ·intro p hp
  simp only[List.mem_cons,List.not_mem_nil,or_false]at hp
  rcases hp with rfl|rfl|rfl|rfl|rfl|rfl|rfl|rfl<;>exact fun _ _ _ h=>h
 ·refine allLt_succ (allLt_succ (allLt_succ (allLt_succ (allLt_succ (allLt_succ (allLt_succ (allLt_succ (allLt_zero _) ?_) ?_) ?_) ?_) ?_) ?_) ?_) ?_
  ·refine StepOkO.run (get_lit rfl) rfl (by omega) fun a W hS hB hd hR=> ?_
   have e9:=hS.get (t:=9) rfl rfl
   refine wp_value (c:= .agg #[.int .i64 2,.string x1,.int .u64 0,.slice none 0 0,.int .u64 0,.int .u64 0,.string ⟨#[]⟩]) ?_ rfl
   obtain⟨c0,c1,c2,c3,c4,c5,c6⟩:=facts7 hR.2.1
   go_simp
  ·refine StepOkO.run (get_lit rfl) rfl (by omega) fun a W hS hB hd hR=> ?_
   have e8:=hS.get (t:=8) rfl rfl
   refine wp_value (c:= .pointer (some ⟨b+1,1,none⟩)) ?_ rfl
   go_simp
  ·refine StepOkO.run (get_lit rfl) rfl (by omega) fun a W hS hB hd hR=> ?_
   have e96:=(hd 1 rfl).bool rfl rfl rfl
   refine wp_value (c:= .int .i64 pp) ?_ rfl
   have c0:W.cell? ⟨b+1,0,none⟩=some (.string s):=(blk_cell hR.1 0).trans rfl
   have c1:W.cell? ⟨b+1,1,none⟩=some (.int .i64 pp):=(blk_cell hR.1 1).trans rfl
   have c2:W.cell? ⟨b+1,2,none⟩=some (.slice A T.length c):=(blk_cell hR.1 2).trans rfl
   go_simp
  ·refine StepOkO.run (get_lit rfl) rfl (by omega) fun a W hS hB hd hR=> ?_
   have e2:=hS.get (t:=2) rfl rfl
   refine wp_value (c:= .string s) ?_ rfl
   go_simp
  ·refine StepOkO.run (get_lit rfl) rfl (by omega) fun a W hS hB hd hR=> ?_
   have e98:=(hd 3 rfl).bool rfl rfl rfl
   refine wp_value (c:= .int .i64 (l.length:Int)) ?_ rfl
   have hsz9:=hss
   go_simp
  ·refine StepOkO.run (get_lit rfl) rfl (by omega) fun a W hS hB hd hR=> ?_
   have e97:=(hd 2 rfl).bool rfl rfl rfl
   have e99:=(hd 4 rfl).bool rfl rfl rfl
   refine wp_value (c:= .bool ok) ?_ rfl
   obtain⟨ho1,ho2⟩:=HOK.out
   go_simp
  ·refine StepOkO.write (get_lit rfl) rfl rfl rfl fun a W hS hB hd hR hP=> ?_
   have e6:=hS.get (t:=6) rfl rfl
   have e95:=(hd 0 rfl).bool rfl rfl rfl
   obtain⟨z0,zf0,z1,zf1,z2,zf2,z3,zf3,z4,zf4,z5,zf5,z6,zf6⟩:=facts7f hP
   refine⟨_, ?_,grown_put (grown_put (grown_put (grown_put (grown_put (grown_put (grown_put (World.grownBy.refl _ _) (.int .i64 2)) (.string x1)) (.int .u64 0)) (.slice none 0 0)) (.int .u64 0)) (.int .u64 0)) (.string ⟨#[]⟩),blk_put7 hP _ _ _ _ _ _ _⟩
   go_simp
  ·refine StepOkO.run (get_lit rfl) rfl (by omega) fun a W hS hB hd hR=> ?_
   have e100:=(hd 5 rfl).bool rfl rfl rfl
   refine wp_value (c:= .bool ok) ?_ rfl
   go_simp
 ·intro a W hS hB hh hRD hFD
  have e7:a.tmps[7]? =some (.bool ok):=(hh 7 (by omega)).bool rfl rfl rfl
  have HBR:=hQ hB
  obtain⟨zz,hlit,hzz⟩:=same_litz hS
  clear hh hS hB
  simp only[List.filterMap_cons,List.filterMap_nil,List.foldl_cons,List.foldl_nil,List.setIfInBounds_toArray,List.set_cons_zero,List.set_cons_succ]at hlit
  rw[hzz 7 _ e7]at hlit
  clear e7
  clear hzz;subst hlit
  go_wp2_with fail
  refine bodyPost_ret (results_ct rfl _ _ b 49 #[_,_,_,_,_,_,_] (0,0) _ rfl hFD HU.out rfl (by kernel_rfl)) rfl ?_
  rw[←HEQ2.out]
  exact⟨_,rfl,Kd.R_mono (Kd.R_lower hRD.2.2 (by omega)) (fun _ _=>trivial),HBR.out⟩
theorem wlast_v1 {l:List Int} (hb: ∀x∈l,0≤x∧x<256) (hl:l.length≤1000000) (A:Option Addr) (c:Nat) (T:List ByteArray) (hT:T.length≤1000000) (w:World) (hC:Kd.C Kd.string w A T.length T) (hgd: ∀{k a1 e1:Int},cuNum l 0 0=(k,a1,e1)→k=1∧e1=0):
  Calls Tryz.prog 29 #[.int .i64 1,.slice A T.length c,.string (strOfNums l)] w (RLastPost w (lastW 1 T l)):=by
 have HNU:=hQ (fun(a e:Int) (W:World)=>wnum_is hb hl a e A T.length c W)
 have HNM:=hQ (fun(a e:Int) (W:World) (h:Below w.heap.size w W)=>wname_is 1 hb hl a e A c T hT W (Kd.C_below hC h))
 have HKN:=hQ (fun(a e m:Int) (hm:0≤m∧m<18446744073709551616) (W:World) (h:Below w.heap.size w W)=>wknown_is (strOfNums l) a e A c T hT m hm W (Kd.C_below hC h))
 have HDE:=hQ (fun(a e m:Int) (ha:0≤a∧a≤(l.length:Int)) (hm:0≤m∧m<18446744073709551616) (W:World) (h:Below w.heap.size w W)=>wdeps_is 1 hb hl a e ha A c T hT m hm W (Kd.C_below hC h))
 have hss:(strOfNums l).size=l.length:=strOfNums_size l
 obtain⟨s,hs⟩:=eX (strOfNums l)
 rw[hs]at HNU HNM HKN HDE hss ⊢
 have HN0:=hQ (HNU.out 0 0)
 have hst0:=cuNum_step l hb 0 0 ⟨by omega,by omega⟩
 obtain⟨F,hF⟩:=eX (lastW 1 T l)
 rw[hF]
 have HF:=hQ hF
 unfold lastW at hF
 have HBY:=hQ hb
 clear hC hs hb
 obtain⟨w1,hw1⟩:=eX (((w.alloc (.cells #[.int .i64 0,.string ⟨#[]⟩,.int .u64 0,.slice none 0 0,.int .u64 0,.int .u64 0,.string ⟨#[]⟩] 49)).alloc (.cells #[.string s,.int .i64 0,.slice A T.length c] 118)).alloc (.cells #[.int .i64 0,.string ⟨#[]⟩,.int .u64 0,.slice none 0 0,.int .u64 0,.int .u64 0,.string ⟨#[]⟩] 49))
 have hb1:Below w.heap.size w w1:=by rw[←hw1];exact(((Below.refl _ _).alloc (Nat.le_refl _) _).alloc (by rw[heap_size_alloc];omega) _).alloc (by rw[heap_size_alloc,heap_size_alloc];omega) _
 have hk6:w1.heap[w.heap.size]? =some (.cells #[.int .i64 0,.string ⟨#[]⟩,.int .u64 0,.slice none 0 0,.int .u64 0,.int .u64 0,.string ⟨#[]⟩] 49 (0,0)):=by rw[←hw1];exact blk_alloc (blk_alloc (heap_new _ _) _) _
 have hk8:w1.heap[w.heap.size+1]? =some (.cells #[.string s,.int .i64 0,.slice A T.length c] 118 (0,0)):=by
  rw[←hw1]
  have:=heap_new (w.alloc (.cells #[.int .i64 0,.string ⟨#[]⟩,.int .u64 0,.slice none 0 0,.int .u64 0,.int .u64 0,.string ⟨#[]⟩] 49)) (.cells #[.string s,.int .i64 0,.slice A T.length c] 118)
  rw[heap_size_alloc]at this
  exact blk_alloc this _
 have hk9:w1.heap[w.heap.size+2]? =some (.cells #[.int .i64 0,.string ⟨#[]⟩,.int .u64 0,.slice none 0 0,.int .u64 0,.int .u64 0,.string ⟨#[]⟩] 49 (0,0)):=by
  rw[←hw1]
  have:=heap_new ((w.alloc (.cells #[.int .i64 0,.string ⟨#[]⟩,.int .u64 0,.slice none 0 0,.int .u64 0,.int .u64 0,.string ⟨#[]⟩] 49)).alloc (.cells #[.string s,.int .i64 0,.slice A T.length c] 118)) (.cells #[.int .i64 0,.string ⟨#[]⟩,.int .u64 0,.slice none 0 0,.int .u64 0,.int .u64 0,.string ⟨#[]⟩] 49)
  rwa [heap_size_alloc,heap_size_alloc]at this
 obtain⟨b,hbb⟩:=eX (w.heap.size)
 rw[hbb]at hk6 hk8 hk9
 have HL1:Hid (LW w w1 b s A T.length c 0 0 ⟨#[]⟩ 0 (.slice none 0 0) [] 0 0 ⟨#[]⟩):=hQ ⟨hk6,hk8,hk9,Kd.R_nil _ _ _ _ _,hb1,hbb⟩
 have HW1:=hQ hw1
 have HBB:=hQ hbb
 have HU:=hQ Tryz.underlying49
 rw[show pl 0 0=0 from rfl]at HN0
 clear hk6 hk8 hk9 hb1 hw1 hbb
 generalize hN1:cuNum l 0 0=N1 at hF HN0 hst0
 obtain⟨k,a1,e1⟩:=N1
 dsimp only at hF HN0 hst0
 obtain⟨rfl,rfl⟩:=hgd hN1
 rw[if_neg (by omega)]at hF
 clear hgd
 unfold lastK at hF
 rw[if_pos rfl]at hF
 have c1:=HNM.out a1 0
 have s1:=textR_place (v:=1) (T:=T) HBY.out a1 0 ⟨by omega,hst0.1⟩
 generalize textR 1 T l a1 0=X1 at hF c1 s1
 obtain⟨x1,a2,e2⟩:=X1
 dsimp only at hF c1 s1
 unfold traceR at hF
 have c2:=HNU.out a2 e2
 have s2:=cuNum_step l HBY.out a2 e2
 have r2:=cuNum_rg (a:=a2) (e:=e2) HBY.out
 generalize cuNum l a2 e2=N2 at hF c2 s2 r2
 obtain⟨x2,a3,e3⟩:=N2
 dsimp only at hF c2 s2 r2
 have s2':=s2 s1
 have c3:=HNU.out a3 e3
 have s3:=cuNum_step l HBY.out a3 e3
 have r3:=cuNum_rg (a:=a3) (e:=e3) HBY.out
 generalize cuNum l a3 e3=N3 at hF c3 s3 r3
 obtain⟨nd,a4,e4⟩:=N3
 dsimp only at hF c3 s3 r3
 have s3':=s3 ⟨by omega,s2'.1⟩
 have c4:=HDE.out a4 e4 nd ⟨by omega,s3'.1⟩ r3
 generalize depsL 1 T l (l.length+2) nd a4 e4 []=DD at hF c4
 obtain⟨ds,a5,e5⟩:=DD
 dsimp only at hF c4
 have c5:=HNU.out a5 e5
 have s5:=cuNum_step l HBY.out a5 e5
 have r5:=cuNum_rg (a:=a5) (e:=e5) HBY.out
 generalize cuNum l a5 e5=N5 at hF c5 s5 r5
 obtain⟨x4,a6,e6⟩:=N5
 dsimp only at hF c5 s5 r5
 unfold tailR at hF
 rw[if_pos (by omega)]at hF
 try dsimp only at hF
 have hp1:decide (pl a1 0<0)=false:=by unfold pl;rw[if_pos rfl];exact decide_eq_false (by omega)
 have hn0:=HN0.out
 generalize pl a1 0=p1 at hF hn0 c1 c2 c3 c4 c5 hp1
 generalize pl a2 e2=p2 at hF hn0 c1 c2 c3 c4 c5
 generalize pl a3 e3=p3 at hF hn0 c1 c2 c3 c4 c5
 generalize pl a4 e4=p4 at hF hn0 c1 c2 c3 c4 c5
 generalize pl a5 e5=p5 at hF hn0 c1 c2 c3 c4 c5
 generalize pl a6 e6=p6 at hF hn0 c1 c2 c3 c4 c5
 have HEQ:=hQ hF
 have C1:=hQ c1
 have C2:=hQ c2
 have C3:=hQ c3
 have C4:=hQ c4
 have C5:=hQ c5
 replace HN0:=hQ hn0
 clear hF hN1 hst0 hn0 c1 c2 c3 c4 c5 s1 s2 s3 s2' s3' s5
 have hkw:IntKind.i64.wrap 1=1:=by rw[IntKind.wrap_i64];omega
 go_enter Tryz.func29,Tryz.ntmps29
 go_wp2_with fail
 rw[HW1.out,HBB.out]
 refine(HN0.out w1).mono ?_
 rintro en y1 ⟨rfl,hb⟩
 have hl0:=HL1.out.below hb
 have hl1:=hl0
 obtain⟨wx0,wxf0,wx1,wxf1,wx2,wxf2⟩:=wf6 hl1.k8
 have hl2:=hl1.walk p1
 obtain⟨d0,d1,d2⟩:=wf3 hl2.k8
 have m0:(((y1.setCell ⟨b+1,0,none⟩ (.string s)).setCell ⟨b+1,1,none⟩ (.int .i64 p1)).setCell ⟨b+1,2,none⟩ (.slice A T.length c)).cell? ⟨b+1+1,0,none⟩=some (.int .i64 0):=(blk_cell hl2.k9 0).trans rfl
 have mf0:=blk_frozen hl2.k9 0
 have hl2:=hl2.field 0 (.int .i64 1) (k':=1) (x1':=⟨#[]⟩) (x2':=0) (dv':= .slice none 0 0) (ds':=[]) (x4':=0) (x5':=0) (x6':=⟨#[]⟩) hl2.row rfl
 obtain⟨n0,n1,n2⟩:=wf3 hl2.k8
 obtain⟨z1,hz⟩:=eX (((((y1.setCell ⟨b+1,0,none⟩ (.string s)).setCell ⟨b+1,1,none⟩ (.int .i64 p1)).setCell ⟨b+1,2,none⟩ (.slice A T.length c)).setCell ⟨b+1+1,0,none⟩ (.int .i64 1)))
 rw[hz]at hl2
 have HLz1:=hQ hl2
 have HWz1:=hQ hz
 clear hb hl0 hl1 hl2 hz
 go_wp2_with fail
 clear wx0 wxf0 wx1 wxf1 wx2 wxf2 d0 d1 d2 m0 mf0 n0 n1 n2
 rw[HWz1.out]
 refine(C1.out _ HLz1.out.bl).mono ?_
 rintro en y2 ⟨rfl,hb⟩
 have hl0:=HLz1.out.below hb
 have g1:y2.cell? ⟨b+1+1,1,none⟩=some (.string ⟨#[]⟩):=(blk_cell hl0.k9 1).trans rfl
 have gf1:=blk_frozen hl0.k9 1
 have hl1:=hl0.field 1 (.string x1) (k':=1) (x1':=x1) (x2':=0) (dv':= .slice none 0 0) (ds':=[]) (x4':=0) (x5':=0) (x6':=⟨#[]⟩) hl0.row rfl
 obtain⟨wx0,wxf0,wx1,wxf1,wx2,wxf2⟩:=wf6 hl1.k8
 have hl2:=hl1.walk p2
 obtain⟨d0,d1,d2⟩:=wf3 hl2.k8
 obtain⟨z2,hz⟩:=eX (((((y2.setCell ⟨b+1+1,1,none⟩ (.string x1)).setCell ⟨b+1,0,none⟩ (.string s)).setCell ⟨b+1,1,none⟩ (.int .i64 p2)).setCell ⟨b+1,2,none⟩ (.slice A T.length c)))
 rw[hz]at hl2
 have HLz2:=hQ hl2
 have HWz2:=hQ hz
 clear hb hl0 hl1 hl2 hz
 go_wp2_with fail
 clear wx0 wxf0 wx1 wxf1 wx2 wxf2 d0 d1 d2 g1 gf1
 rw[HWz2.out]
 refine(C2.out _).mono ?_
 rintro en y3 ⟨rfl,hb⟩
 have hl0:=HLz2.out.below hb
 have g2:y3.cell? ⟨b+1+1,2,none⟩=some (.int .u64 0):=(blk_cell hl0.k9 2).trans rfl
 have gf2:=blk_frozen hl0.k9 2
 have hl1:=hl0.field 2 (.int .u64 x2) (k':=1) (x1':=x1) (x2':=x2) (dv':= .slice none 0 0) (ds':=[]) (x4':=0) (x5':=0) (x6':=⟨#[]⟩) hl0.row rfl
 obtain⟨wx0,wxf0,wx1,wxf1,wx2,wxf2⟩:=wf6 hl1.k8
 have hl2:=hl1.walk p3
 obtain⟨d0,d1,d2⟩:=wf3 hl2.k8
 obtain⟨z3,hz⟩:=eX (((((y3.setCell ⟨b+1+1,2,none⟩ (.int .u64 x2)).setCell ⟨b+1,0,none⟩ (.string s)).setCell ⟨b+1,1,none⟩ (.int .i64 p3)).setCell ⟨b+1,2,none⟩ (.slice A T.length c)))
 rw[hz]at hl2
 have HLz3:=hQ hl2
 have HWz3:=hQ hz
 clear hb hl0 hl1 hl2 hz
 go_wp2_with fail
 clear wx0 wxf0 wx1 wxf1 wx2 wxf2 d0 d1 d2 g2 gf2
 rw[HWz3.out]
 refine(C3.out _).mono ?_
 rintro en y4 ⟨rfl,hb⟩
 have hl0:=HLz3.out.below hb
 have hl1:=hl0
 obtain⟨wx0,wxf0,wx1,wxf1,wx2,wxf2⟩:=wf6 hl1.k8
 have hl2:=hl1.walk p4
 obtain⟨d0,d1,d2⟩:=wf3 hl2.k8
 obtain⟨z4,hz⟩:=eX ((((y4.setCell ⟨b+1,0,none⟩ (.string s)).setCell ⟨b+1,1,none⟩ (.int .i64 p4)).setCell ⟨b+1,2,none⟩ (.slice A T.length c)))
 rw[hz]at hl2
 have HLz4:=hQ hl2
 have HWz4:=hQ hz
 clear hb hl0 hl1 hl2 hz
 go_wp2_with fail
 clear wx0 wxf0 wx1 wxf1 wx2 wxf2 d0 d1 d2
 rw[HWz4.out]
 refine(C4.out _ HLz4.out.bl).mono ?_
 rintro en y5 ⟨dv,rfl,hR,hb⟩
 obtain⟨Ad,cd,rfl⟩:=Kd.R_slice hR
 have hl0:=HLz4.out.below hb
 have g3:y5.cell? ⟨b+1+1,3,none⟩=some (.slice none 0 0):=(blk_cell hl0.k9 3).trans rfl
 have gf3:=blk_frozen hl0.k9 3
 have hl1:=hl0.field 3 (.slice Ad ds.length cd) (k':=1) (x1':=x1) (x2':=x2) (dv':= .slice Ad ds.length cd) (ds':=ds) (x4':=0) (x5':=0) (x6':=⟨#[]⟩) (Kd.R_lower hR (by have:=blk_lt HLz4.out.k9;omega)) rfl
 obtain⟨wx0,wxf0,wx1,wxf1,wx2,wxf2⟩:=wf6 hl1.k8
 have hl2:=hl1.walk p5
 obtain⟨d0,d1,d2⟩:=wf3 hl2.k8
 obtain⟨z5,hz⟩:=eX (((((y5.setCell ⟨b+1+1,3,none⟩ (.slice Ad ds.length cd)).setCell ⟨b+1,0,none⟩ (.string s)).setCell ⟨b+1,1,none⟩ (.int .i64 p5)).setCell ⟨b+1,2,none⟩ (.slice A T.length c)))
 rw[hz]at hl2
 have HLz5:=hQ hl2
 have HWz5:=hQ hz
 clear hb hl0 hl1 hl2 hz hR
 go_wp2_with fail
 clear wx0 wxf0 wx1 wxf1 wx2 wxf2 d0 d1 d2 g3 gf3
 rw[HWz5.out]
 refine(C5.out _).mono ?_
 rintro en y6 ⟨rfl,hb⟩
 have hl0:=HLz5.out.below hb
 have g4:y6.cell? ⟨b+1+1,4,none⟩=some (.int .u64 0):=(blk_cell hl0.k9 4).trans rfl
 have gf4:=blk_frozen hl0.k9 4
 have hl1:=hl0.field 4 (.int .u64 x4) (k':=1) (x1':=x1) (x2':=x2) (dv':= .slice Ad ds.length cd) (ds':=ds) (x4':=x4) (x5':=0) (x6':=⟨#[]⟩) hl0.row rfl
 obtain⟨wx0,wxf0,wx1,wxf1,wx2,wxf2⟩:=wf6 hl1.k8
 have hl2:=hl1.walk p6
 obtain⟨d0,d1,d2⟩:=wf3 hl2.k8
 obtain⟨z6,hz⟩:=eX (((((y6.setCell ⟨b+1+1,4,none⟩ (.int .u64 x4)).setCell ⟨b+1,0,none⟩ (.string s)).setCell ⟨b+1,1,none⟩ (.int .i64 p6)).setCell ⟨b+1,2,none⟩ (.slice A T.length c)))
 rw[hz]at hl2
 have HLz6:=hQ hl2
 have HWz6:=hQ hz
 clear hb hl0 hl1 hl2 hz
 go_wp2_with fail
 clear wx0 wxf0 wx1 wxf1 wx2 wxf2 d0 d1 d2 g4 gf4
 rw[HWz6.out]
 have hl9:=HLz6.out
 obtain⟨pp,hpp⟩:=eX (p6)
 rw[hpp]at hl9
 have heq:=HEQ.out
 rw[hpp]at heq
 have HL9:=hQ hl9
 have HPP:=hQ hpp
 obtain⟨ok,hok⟩:=eX (decide (pp=(l.length:Int)))
 have hok2:(pp==(l.length:Int))=ok:=by rw[←hok,Bool.eq_iff_iff];simp
 rw[hok]at heq
 have HEQ2:=hQ heq
 clear heq
 have HOK:=hQ (And.intro hok hok2)
 have kT1:=And.intro hl9.k8 (And.intro hl9.k9 (Kd.R_mono (ok':=fun k=>k≠b) (Kd.R_bound hl9.row) (fun k hk=>by have:=hk.2.1;omega)))
 have kT3:=hl9.k6
 have hsz:=hl9.bl.size
 have hb3w:=HBB.out
 clear hl9 hpp hok hok2
 refine region_one (n:=8) (base:=w.heap.size) (w0:=w) (b:=b) (jw:=6) (byList [isV (.agg #[.int .i64 1,.string x1,.int .u64 x2,.slice Ad ds.length cd,.int .u64 x4,.int .u64 0,.string ⟨#[]⟩]),isV (.pointer (some ⟨b+1,1,none⟩)),isV (.int .i64 pp),isV (.string s),isV (.int .i64 (l.length:Int)),isV (.bool ok),(fun _ _=>True),isV (.bool ok)]) (fun W=>W.heap[b+1]? =some (.cells #[.string s,.int .i64 pp,.slice A T.length c] 118 (0,0))∧W.heap[b+1+1]? =some (.cells #[.int .i64 1,.string x1,.int .u64 x2,.slice Ad ds.length cd,.int .u64 x4,.int .u64 0,.string ⟨#[]⟩] 49 (0,0))∧Kd.R k129 129 W (b+3) (fun k=>k≠b) (.slice Ad ds.length cd) (ds)) (fun W=>W.heap[b]? =some (.cells #[.int .i64 0,.string ⟨#[]⟩,.int .u64 0,.slice none 0 0,.int .u64 0,.int .u64 0,.string ⟨#[]⟩] 49 (0,0))) (fun W=>W.heap[b]? =some (.cells #[.int .i64 1,.string x1,.int .u64 x2,.slice Ad ds.length cd,.int .u64 x4,.int .u64 0,.string ⟨#[]⟩] 49 (0,0))) (by kernel_rfl) rfl (by omega) (byList_any ?_) (by kernel_rfl) (by kernel_rfl) (by omega) (fun W W' row hrow h hg=>⟨blk_grown' h.1 hg (by rcases hrow with rfl|rfl<;>simp<;>omega),blk_grown' h.2.1 hg (by rcases hrow with rfl|rfl<;>simp<;>omega),Kd.R_grown h.2.2 hg (fun k hk=>by rcases hrow with rfl|rfl<;>simp;omega)⟩) (fun W W' h hg=>blk_below h (below_none hg)) (fun W W' h hg=>blk_below h (below_none hg)) HL9.out.bl (Nat.le_refl _) kT1 kT3 (show AllLt 8 _ from ?_) ?_
 ·intro p hp
  simp only[List.mem_cons,List.not_mem_nil,or_false]at hp
  rcases hp with rfl|rfl|rfl|rfl|rfl|rfl|rfl|rfl<;>exact fun _ _ _ h=>h
 ·refine allLt_succ (allLt_succ (allLt_succ (allLt_succ (allLt_succ (allLt_succ (allLt_succ (allLt_succ (allLt_zero _) ?_) ?_) ?_) ?_) ?_) ?_) ?_) ?_
  ·refine StepOkO.run (get_lit rfl) rfl (by omega) fun a W hS hB hd hR=> ?_
   have e9:=hS.get (t:=9) rfl rfl
   refine wp_value (c:= .agg #[.int .i64 1,.string x1,.int .u64 x2,.slice Ad ds.length cd,.int .u64 x4,.int .u64 0,.string ⟨#[]⟩]) ?_ rfl
   obtain⟨c0,c1,c2,c3,c4,c5,c6⟩:=facts7 hR.2.1
   go_simp
  ·refine StepOkO.run (get_lit rfl) rfl (by omega) fun a W hS hB hd hR=> ?_
   have e8:=hS.get (t:=8) rfl rfl
   refine wp_value (c:= .pointer (some ⟨b+1,1,none⟩)) ?_ rfl
   go_simp
  ·refine StepOkO.run (get_lit rfl) rfl (by omega) fun a W hS hB hd hR=> ?_
   have e96:=(hd 1 rfl).bool rfl rfl rfl
   refine wp_value (c:= .int .i64 pp) ?_ rfl
   have c0:W.cell? ⟨b+1,0,none⟩=some (.string s):=(blk_cell hR.1 0).trans rfl
   have c1:W.cell? ⟨b+1,1,none⟩=some (.int .i64 pp):=(blk_cell hR.1 1).trans rfl
   have c2:W.cell? ⟨b+1,2,none⟩=some (.slice A T.length c):=(blk_cell hR.1 2).trans rfl
   go_simp
  ·refine StepOkO.run (get_lit rfl) rfl (by omega) fun a W hS hB hd hR=> ?_
   have e2:=hS.get (t:=2) rfl rfl
   refine wp_value (c:= .string s) ?_ rfl
   go_simp
  ·refine StepOkO.run (get_lit rfl) rfl (by omega) fun a W hS hB hd hR=> ?_
   have e98:=(hd 3 rfl).bool rfl rfl rfl
   refine wp_value (c:= .int .i64 (l.length:Int)) ?_ rfl
   have hsz9:=hss
   go_simp
  ·refine StepOkO.run (get_lit rfl) rfl (by omega) fun a W hS hB hd hR=> ?_
   have e97:=(hd 2 rfl).bool rfl rfl rfl
   have e99:=(hd 4 rfl).bool rfl rfl rfl
   refine wp_value (c:= .bool ok) ?_ rfl
   obtain⟨ho1,ho2⟩:=HOK.out
   go_simp
  ·refine StepOkO.write (get_lit rfl) rfl rfl rfl fun a W hS hB hd hR hP=> ?_
   have e6:=hS.get (t:=6) rfl rfl
   have e95:=(hd 0 rfl).bool rfl rfl rfl
   obtain⟨z0,zf0,z1,zf1,z2,zf2,z3,zf3,z4,zf4,z5,zf5,z6,zf6⟩:=facts7f hP
   refine⟨_, ?_,grown_put (grown_put (grown_put (grown_put (grown_put (grown_put (grown_put (World.grownBy.refl _ _) (.int .i64 1)) (.string x1)) (.int .u64 x2)) (.slice Ad ds.length cd)) (.int .u64 x4)) (.int .u64 0)) (.string ⟨#[]⟩),blk_put7 hP _ _ _ _ _ _ _⟩
   go_simp
  ·refine StepOkO.run (get_lit rfl) rfl (by omega) fun a W hS hB hd hR=> ?_
   have e100:=(hd 5 rfl).bool rfl rfl rfl
   refine wp_value (c:= .bool ok) ?_ rfl
   go_simp
 ·intro a W hS hB hh hRD hFD
  have e7:a.tmps[7]? =some (.bool ok):=(hh 7 (by omega)).bool rfl rfl rfl
  have HBR:=hQ hB
  obtain⟨zz,hlit,hzz⟩:=same_litz hS
  clear hh hS hB
  simp only[List.filterMap_cons,List.filterMap_nil,List.foldl_cons,List.foldl_nil,List.setIfInBounds_toArray,List.set_cons_zero,List.set_cons_succ]at hlit
  rw[hzz 7 _ e7]at hlit
  clear e7
  clear hzz;subst hlit
  go_wp2_with fail
  refine bodyPost_ret (results_ct rfl _ _ b 49 #[_,_,_,_,_,_,_] (0,0) _ rfl hFD HU.out rfl (by kernel_rfl)) rfl ?_
  rw[←HEQ2.out]
  exact⟨_,rfl,Kd.R_mono (Kd.R_lower hRD.2.2 (by omega)) (fun _ _=>trivial),HBR.out⟩
theorem wlast_v2 {l:List Int} (hb: ∀x∈l,0≤x∧x<256) (hl:l.length≤1000000) (A:Option Addr) (c:Nat) (T:List ByteArray) (hT:T.length≤1000000) (w:World) (hC:Kd.C Kd.string w A T.length T) (hgd: ∀{k a1 e1:Int},cuNum l 0 0=(k,a1,e1)→k=1∧e1=0):
  Calls Tryz.prog 29 #[.int .i64 2,.slice A T.length c,.string (strOfNums l)] w (RLastPost w (lastW 2 T l)):=by
 have HNU:=hQ (fun(a e:Int) (W:World)=>wnum_is hb hl a e A T.length c W)
 have HNM:=hQ (fun(a e:Int) (W:World) (h:Below w.heap.size w W)=>wname_is 2 hb hl a e A c T hT W (Kd.C_below hC h))
 have HKN:=hQ (fun(a e m:Int) (hm:0≤m∧m<18446744073709551616) (W:World) (h:Below w.heap.size w W)=>wknown_is (strOfNums l) a e A c T hT m hm W (Kd.C_below hC h))
 have HDE:=hQ (fun(a e m:Int) (ha:0≤a∧a≤(l.length:Int)) (hm:0≤m∧m<18446744073709551616) (W:World) (h:Below w.heap.size w W)=>wdeps_is 2 hb hl a e ha A c T hT m hm W (Kd.C_below hC h))
 have hss:(strOfNums l).size=l.length:=strOfNums_size l
 obtain⟨s,hs⟩:=eX (strOfNums l)
 rw[hs]at HNU HNM HKN HDE hss ⊢
 have HN0:=hQ (HNU.out 0 0)
 have hst0:=cuNum_step l hb 0 0 ⟨by omega,by omega⟩
 obtain⟨F,hF⟩:=eX (lastW 2 T l)
 rw[hF]
 have HF:=hQ hF
 unfold lastW at hF
 have HBY:=hQ hb
 clear hC hs hb
 obtain⟨w1,hw1⟩:=eX (((w.alloc (.cells #[.int .i64 0,.string ⟨#[]⟩,.int .u64 0,.slice none 0 0,.int .u64 0,.int .u64 0,.string ⟨#[]⟩] 49)).alloc (.cells #[.string s,.int .i64 0,.slice A T.length c] 118)).alloc (.cells #[.int .i64 0,.string ⟨#[]⟩,.int .u64 0,.slice none 0 0,.int .u64 0,.int .u64 0,.string ⟨#[]⟩] 49))
 have hb1:Below w.heap.size w w1:=by rw[←hw1];exact(((Below.refl _ _).alloc (Nat.le_refl _) _).alloc (by rw[heap_size_alloc];omega) _).alloc (by rw[heap_size_alloc,heap_size_alloc];omega) _
 have hk6:w1.heap[w.heap.size]? =some (.cells #[.int .i64 0,.string ⟨#[]⟩,.int .u64 0,.slice none 0 0,.int .u64 0,.int .u64 0,.string ⟨#[]⟩] 49 (0,0)):=by rw[←hw1];exact blk_alloc (blk_alloc (heap_new _ _) _) _
 have hk8:w1.heap[w.heap.size+1]? =some (.cells #[.string s,.int .i64 0,.slice A T.length c] 118 (0,0)):=by
  rw[←hw1]
  have:=heap_new (w.alloc (.cells #[.int .i64 0,.string ⟨#[]⟩,.int .u64 0,.slice none 0 0,.int .u64 0,.int .u64 0,.string ⟨#[]⟩] 49)) (.cells #[.string s,.int .i64 0,.slice A T.length c] 118)
  rw[heap_size_alloc]at this
  exact blk_alloc this _
 have hk9:w1.heap[w.heap.size+2]? =some (.cells #[.int .i64 0,.string ⟨#[]⟩,.int .u64 0,.slice none 0 0,.int .u64 0,.int .u64 0,.string ⟨#[]⟩] 49 (0,0)):=by
  rw[←hw1]
  have:=heap_new ((w.alloc (.cells #[.int .i64 0,.string ⟨#[]⟩,.int .u64 0,.slice none 0 0,.int .u64 0,.int .u64 0,.string ⟨#[]⟩] 49)).alloc (.cells #[.string s,.int .i64 0,.slice A T.length c] 118)) (.cells #[.int .i64 0,.string ⟨#[]⟩,.int .u64 0,.slice none 0 0,.int .u64 0,.int .u64 0,.string ⟨#[]⟩] 49)
  rwa [heap_size_alloc,heap_size_alloc]at this
 obtain⟨b,hbb⟩:=eX (w.heap.size)
 rw[hbb]at hk6 hk8 hk9
 have HL1:Hid (LW w w1 b s A T.length c 0 0 ⟨#[]⟩ 0 (.slice none 0 0) [] 0 0 ⟨#[]⟩):=hQ ⟨hk6,hk8,hk9,Kd.R_nil _ _ _ _ _,hb1,hbb⟩
 have HW1:=hQ hw1
 have HBB:=hQ hbb
 have HU:=hQ Tryz.underlying49
 rw[show pl 0 0=0 from rfl]at HN0
 clear hk6 hk8 hk9 hb1 hw1 hbb
 generalize hN1:cuNum l 0 0=N1 at hF HN0 hst0
 obtain⟨k,a1,e1⟩:=N1
 dsimp only at hF HN0 hst0
 obtain⟨rfl,rfl⟩:=hgd hN1
 rw[if_neg (by omega)]at hF
 clear hgd
 unfold lastK at hF
 rw[if_pos rfl]at hF
 have c1:=HNM.out a1 0
 have s1:=textR_place (v:=2) (T:=T) HBY.out a1 0 ⟨by omega,hst0.1⟩
 generalize textR 2 T l a1 0=X1 at hF c1 s1
 obtain⟨x1,a2,e2⟩:=X1
 dsimp only at hF c1 s1
 unfold traceR at hF
 have c2:=HNU.out a2 e2
 have s2:=cuNum_step l HBY.out a2 e2
 have r2:=cuNum_rg (a:=a2) (e:=e2) HBY.out
 generalize cuNum l a2 e2=N2 at hF c2 s2 r2
 obtain⟨x2,a3,e3⟩:=N2
 dsimp only at hF c2 s2 r2
 have s2':=s2 s1
 have c3:=HNU.out a3 e3
 have s3:=cuNum_step l HBY.out a3 e3
 have r3:=cuNum_rg (a:=a3) (e:=e3) HBY.out
 generalize cuNum l a3 e3=N3 at hF c3 s3 r3
 obtain⟨nd,a4,e4⟩:=N3
 dsimp only at hF c3 s3 r3
 have s3':=s3 ⟨by omega,s2'.1⟩
 have c4:=HDE.out a4 e4 nd ⟨by omega,s3'.1⟩ r3
 generalize depsL 2 T l (l.length+2) nd a4 e4 []=DD at hF c4
 obtain⟨ds,a5,e5⟩:=DD
 dsimp only at hF c4
 have c5:=HNU.out a5 e5
 have s5:=cuNum_step l HBY.out a5 e5
 have r5:=cuNum_rg (a:=a5) (e:=e5) HBY.out
 generalize cuNum l a5 e5=N5 at hF c5 s5 r5
 obtain⟨x4,a6,e6⟩:=N5
 dsimp only at hF c5 s5 r5
 unfold tailR at hF
 rw[if_neg (by omega),if_pos (by omega)]at hF
 have c6:=HNU.out a6 e6
 have s6:=cuNum_step l HBY.out a6 e6
 have r6:=cuNum_rg (a:=a6) (e:=e6) HBY.out
 generalize cuNum l a6 e6=N6 at hF c6 s6 r6
 obtain⟨x5,a7,e7⟩:=N6
 dsimp only at hF c6 s6 r6
 try dsimp only at hF
 have hp1:decide (pl a1 0<0)=false:=by unfold pl;rw[if_pos rfl];exact decide_eq_false (by omega)
 have hn0:=HN0.out
 generalize pl a1 0=p1 at hF hn0 c1 c2 c3 c4 c5 c6 hp1
 generalize pl a2 e2=p2 at hF hn0 c1 c2 c3 c4 c5 c6
 generalize pl a3 e3=p3 at hF hn0 c1 c2 c3 c4 c5 c6
 generalize pl a4 e4=p4 at hF hn0 c1 c2 c3 c4 c5 c6
 generalize pl a5 e5=p5 at hF hn0 c1 c2 c3 c4 c5 c6
 generalize pl a6 e6=p6 at hF hn0 c1 c2 c3 c4 c5 c6
 generalize pl a7 e7=p7 at hF hn0 c1 c2 c3 c4 c5 c6
 have HEQ:=hQ hF
 have C1:=hQ c1
 have C2:=hQ c2
 have C3:=hQ c3
 have C4:=hQ c4
 have C5:=hQ c5
 have C6:=hQ c6
 replace HN0:=hQ hn0
 clear hF hN1 hst0 hn0 c1 c2 c3 c4 c5 c6 s1 s2 s3 s2' s3' s5 s6
 have hkw:IntKind.i64.wrap 1=1:=by rw[IntKind.wrap_i64];omega
 go_enter Tryz.func29,Tryz.ntmps29
 go_wp2_with fail
 rw[HW1.out,HBB.out]
 refine(HN0.out w1).mono ?_
 rintro en y1 ⟨rfl,hb⟩
 have hl0:=HL1.out.below hb
 have hl1:=hl0
 obtain⟨wx0,wxf0,wx1,wxf1,wx2,wxf2⟩:=wf6 hl1.k8
 have hl2:=hl1.walk p1
 obtain⟨d0,d1,d2⟩:=wf3 hl2.k8
 have m0:(((y1.setCell ⟨b+1,0,none⟩ (.string s)).setCell ⟨b+1,1,none⟩ (.int .i64 p1)).setCell ⟨b+1,2,none⟩ (.slice A T.length c)).cell? ⟨b+1+1,0,none⟩=some (.int .i64 0):=(blk_cell hl2.k9 0).trans rfl
 have mf0:=blk_frozen hl2.k9 0
 have hl2:=hl2.field 0 (.int .i64 1) (k':=1) (x1':=⟨#[]⟩) (x2':=0) (dv':= .slice none 0 0) (ds':=[]) (x4':=0) (x5':=0) (x6':=⟨#[]⟩) hl2.row rfl
 obtain⟨n0,n1,n2⟩:=wf3 hl2.k8
 obtain⟨z1,hz⟩:=eX (((((y1.setCell ⟨b+1,0,none⟩ (.string s)).setCell ⟨b+1,1,none⟩ (.int .i64 p1)).setCell ⟨b+1,2,none⟩ (.slice A T.length c)).setCell ⟨b+1+1,0,none⟩ (.int .i64 1)))
 rw[hz]at hl2
 have HLz1:=hQ hl2
 have HWz1:=hQ hz
 clear hb hl0 hl1 hl2 hz
 go_wp2_with fail
 clear wx0 wxf0 wx1 wxf1 wx2 wxf2 d0 d1 d2 m0 mf0 n0 n1 n2
 rw[HWz1.out]
 refine(C1.out _ HLz1.out.bl).mono ?_
 rintro en y2 ⟨rfl,hb⟩
 have hl0:=HLz1.out.below hb
 have g1:y2.cell? ⟨b+1+1,1,none⟩=some (.string ⟨#[]⟩):=(blk_cell hl0.k9 1).trans rfl
 have gf1:=blk_frozen hl0.k9 1
 have hl1:=hl0.field 1 (.string x1) (k':=1) (x1':=x1) (x2':=0) (dv':= .slice none 0 0) (ds':=[]) (x4':=0) (x5':=0) (x6':=⟨#[]⟩) hl0.row rfl
 obtain⟨wx0,wxf0,wx1,wxf1,wx2,wxf2⟩:=wf6 hl1.k8
 have hl2:=hl1.walk p2
 obtain⟨d0,d1,d2⟩:=wf3 hl2.k8
 obtain⟨z2,hz⟩:=eX (((((y2.setCell ⟨b+1+1,1,none⟩ (.string x1)).setCell ⟨b+1,0,none⟩ (.string s)).setCell ⟨b+1,1,none⟩ (.int .i64 p2)).setCell ⟨b+1,2,none⟩ (.slice A T.length c)))
 rw[hz]at hl2
 have HLz2:=hQ hl2
 have HWz2:=hQ hz
 clear hb hl0 hl1 hl2 hz
 go_wp2_with fail
 clear wx0 wxf0 wx1 wxf1 wx2 wxf2 d0 d1 d2 g1 gf1
 rw[HWz2.out]
 refine(C2.out _).mono ?_
 rintro en y3 ⟨rfl,hb⟩
 have hl0:=HLz2.out.below hb
 have g2:y3.cell? ⟨b+1+1,2,none⟩=some (.int .u64 0):=(blk_cell hl0.k9 2).trans rfl
 have gf2:=blk_frozen hl0.k9 2
 have hl1:=hl0.field 2 (.int .u64 x2) (k':=1) (x1':=x1) (x2':=x2) (dv':= .slice none 0 0) (ds':=[]) (x4':=0) (x5':=0) (x6':=⟨#[]⟩) hl0.row rfl
 obtain⟨wx0,wxf0,wx1,wxf1,wx2,wxf2⟩:=wf6 hl1.k8
 have hl2:=hl1.walk p3
 obtain⟨d0,d1,d2⟩:=wf3 hl2.k8
 obtain⟨z3,hz⟩:=eX (((((y3.setCell ⟨b+1+1,2,none⟩ (.int .u64 x2)).setCell ⟨b+1,0,none⟩ (.string s)).setCell ⟨b+1,1,none⟩ (.int .i64 p3)).setCell ⟨b+1,2,none⟩ (.slice A T.length c)))
 rw[hz]at hl2
 have HLz3:=hQ hl2
 have HWz3:=hQ hz
 clear hb hl0 hl1 hl2 hz
 go_wp2_with fail
 clear wx0 wxf0 wx1 wxf1 wx2 wxf2 d0 d1 d2 g2 gf2
 rw[HWz3.out]
 refine(C3.out _).mono ?_
 rintro en y4 ⟨rfl,hb⟩
 have hl0:=HLz3.out.below hb
 have hl1:=hl0
 obtain⟨wx0,wxf0,wx1,wxf1,wx2,wxf2⟩:=wf6 hl1.k8
 have hl2:=hl1.walk p4
 obtain⟨d0,d1,d2⟩:=wf3 hl2.k8
 obtain⟨z4,hz⟩:=eX ((((y4.setCell ⟨b+1,0,none⟩ (.string s)).setCell ⟨b+1,1,none⟩ (.int .i64 p4)).setCell ⟨b+1,2,none⟩ (.slice A T.length c)))
 rw[hz]at hl2
 have HLz4:=hQ hl2
 have HWz4:=hQ hz
 clear hb hl0 hl1 hl2 hz
 go_wp2_with fail
 clear wx0 wxf0 wx1 wxf1 wx2 wxf2 d0 d1 d2
 rw[HWz4.out]
 refine(C4.out _ HLz4.out.bl).mono ?_
 rintro en y5 ⟨dv,rfl,hR,hb⟩
 obtain⟨Ad,cd,rfl⟩:=Kd.R_slice hR
 have hl0:=HLz4.out.below hb
 have g3:y5.cell? ⟨b+1+1,3,none⟩=some (.slice none 0 0):=(blk_cell hl0.k9 3).trans rfl
 have gf3:=blk_frozen hl0.k9 3
 have hl1:=hl0.field 3 (.slice Ad ds.length cd) (k':=1) (x1':=x1) (x2':=x2) (dv':= .slice Ad ds.length cd) (ds':=ds) (x4':=0) (x5':=0) (x6':=⟨#[]⟩) (Kd.R_lower hR (by have:=blk_lt HLz4.out.k9;omega)) rfl
 obtain⟨wx0,wxf0,wx1,wxf1,wx2,wxf2⟩:=wf6 hl1.k8
 have hl2:=hl1.walk p5
 obtain⟨d0,d1,d2⟩:=wf3 hl2.k8
 obtain⟨z5,hz⟩:=eX (((((y5.setCell ⟨b+1+1,3,none⟩ (.slice Ad ds.length cd)).setCell ⟨b+1,0,none⟩ (.string s)).setCell ⟨b+1,1,none⟩ (.int .i64 p5)).setCell ⟨b+1,2,none⟩ (.slice A T.length c)))
 rw[hz]at hl2
 have HLz5:=hQ hl2
 have HWz5:=hQ hz
 clear hb hl0 hl1 hl2 hz hR
 go_wp2_with fail
 clear wx0 wxf0 wx1 wxf1 wx2 wxf2 d0 d1 d2 g3 gf3
 rw[HWz5.out]
 refine(C5.out _).mono ?_
 rintro en y6 ⟨rfl,hb⟩
 have hl0:=HLz5.out.below hb
 have g4:y6.cell? ⟨b+1+1,4,none⟩=some (.int .u64 0):=(blk_cell hl0.k9 4).trans rfl
 have gf4:=blk_frozen hl0.k9 4
 have hl1:=hl0.field 4 (.int .u64 x4) (k':=1) (x1':=x1) (x2':=x2) (dv':= .slice Ad ds.length cd) (ds':=ds) (x4':=x4) (x5':=0) (x6':=⟨#[]⟩) hl0.row rfl
 obtain⟨wx0,wxf0,wx1,wxf1,wx2,wxf2⟩:=wf6 hl1.k8
 have hl2:=hl1.walk p6
 obtain⟨d0,d1,d2⟩:=wf3 hl2.k8
 obtain⟨z6,hz⟩:=eX (((((y6.setCell ⟨b+1+1,4,none⟩ (.int .u64 x4)).setCell ⟨b+1,0,none⟩ (.string s)).setCell ⟨b+1,1,none⟩ (.int .i64 p6)).setCell ⟨b+1,2,none⟩ (.slice A T.length c)))
 rw[hz]at hl2
 have HLz6:=hQ hl2
 have HWz6:=hQ hz
 clear hb hl0 hl1 hl2 hz
 go_wp2_with fail
 clear wx0 wxf0 wx1 wxf1 wx2 wxf2 d0 d1 d2 g4 gf4
 rw[HWz6.out]
 refine(C6.out _).mono ?_
 rintro en y7 ⟨rfl,hb⟩
 have hl0:=HLz6.out.below hb
 have g5:y7.cell? ⟨b+1+1,5,none⟩=some (.int .u64 0):=(blk_cell hl0.k9 5).trans rfl
 have gf5:=blk_frozen hl0.k9 5
 have hl1:=hl0.field 5 (.int .u64 x5) (k':=1) (x1':=x1) (x2':=x2) (dv':= .slice Ad ds.length cd) (ds':=ds) (x4':=x4) (x5':=x5) (x6':=⟨#[]⟩) hl0.row rfl
 obtain⟨wx0,wxf0,wx1,wxf1,wx2,wxf2⟩:=wf6 hl1.k8
 have hl2:=hl1.walk p7
 obtain⟨d0,d1,d2⟩:=wf3 hl2.k8
 obtain⟨z7,hz⟩:=eX (((((y7.setCell ⟨b+1+1,5,none⟩ (.int .u64 x5)).setCell ⟨b+1,0,none⟩ (.string s)).setCell ⟨b+1,1,none⟩ (.int .i64 p7)).setCell ⟨b+1,2,none⟩ (.slice A T.length c)))
 rw[hz]at hl2
 have HLz7:=hQ hl2
 have HWz7:=hQ hz
 clear hb hl0 hl1 hl2 hz
 go_wp2_with fail
 clear wx0 wxf0 wx1 wxf1 wx2 wxf2 d0 d1 d2 g5 gf5
 rw[HWz7.out]
 have hl9:=HLz7.out
 obtain⟨pp,hpp⟩:=eX (p7)
 rw[hpp]at hl9
 have heq:=HEQ.out
 rw[hpp]at heq
 have HL9:=hQ hl9
 have HPP:=hQ hpp
 obtain⟨ok,hok⟩:=eX (decide (pp=(l.length:Int)))
 have hok2:(pp==(l.length:Int))=ok:=by rw[←hok,Bool.eq_iff_iff];simp
 rw[hok]at heq
 have HEQ2:=hQ heq
 clear heq
 have HOK:=hQ (And.intro hok hok2)
 have kT1:=And.intro hl9.k8 (And.intro hl9.k9 (Kd.R_mono (ok':=fun k=>k≠b) (Kd.R_bound hl9.row) (fun k hk=>by have:=hk.2.1;omega)))
 have kT3:=hl9.k6
 have hsz:=hl9.bl.size
 have hb3w:=HBB.out
 clear hl9 hpp hok hok2
 refine region_one (n:=8) (base:=w.heap.size) (w0:=w) (b:=b) (jw:=6) (byList [isV (.agg #[.int .i64 1,.string x1,.int .u64 x2,.slice Ad ds.length cd,.int .u64 x4,.int .u64 x5,.string ⟨#[]⟩]),isV (.pointer (some ⟨b+1,1,none⟩)),isV (.int .i64 pp),isV (.string s),isV (.int .i64 (l.length:Int)),isV (.bool ok),(fun _ _=>True),isV (.bool ok)]) (fun W=>W.heap[b+1]? =some (.cells #[.string s,.int .i64 pp,.slice A T.length c] 118 (0,0))∧W.heap[b+1+1]? =some (.cells #[.int .i64 1,.string x1,.int .u64 x2,.slice Ad ds.length cd,.int .u64 x4,.int .u64 x5,.string ⟨#[]⟩] 49 (0,0))∧Kd.R k129 129 W (b+3) (fun k=>k≠b) (.slice Ad ds.length cd) (ds)) (fun W=>W.heap[b]? =some (.cells #[.int .i64 0,.string ⟨#[]⟩,.int .u64 0,.slice none 0 0,.int .u64 0,.int .u64 0,.string ⟨#[]⟩] 49 (0,0))) (fun W=>W.heap[b]? =some (.cells #[.int .i64 1,.string x1,.int .u64 x2,.slice Ad ds.length cd,.int .u64 x4,.int .u64 x5,.string ⟨#[]⟩] 49 (0,0))) (by kernel_rfl) rfl (by omega) (byList_any ?_) (by kernel_rfl) (by kernel_rfl) (by omega) (fun W W' row hrow h hg=>⟨blk_grown' h.1 hg (by rcases hrow with rfl|rfl<;>simp<;>omega),blk_grown' h.2.1 hg (by rcases hrow with rfl|rfl<;>simp<;>omega),Kd.R_grown h.2.2 hg (fun k hk=>by rcases hrow with rfl|rfl<;>simp;omega)⟩) (fun W W' h hg=>blk_below h (below_none hg)) (fun W W' h hg=>blk_below h (below_none hg)) HL9.out.bl (Nat.le_refl _) kT1 kT3 (show AllLt 8 _ from ?_) ?_
 ·intro p hp
  simp only[List.mem_cons,List.not_mem_nil,or_false]at hp
  rcases hp with rfl|rfl|rfl|rfl|rfl|rfl|rfl|rfl<;>exact fun _ _ _ h=>h
 ·refine allLt_succ (allLt_succ (allLt_succ (allLt_succ (allLt_succ (allLt_succ (allLt_succ (allLt_succ (allLt_zero _) ?_) ?_) ?_) ?_) ?_) ?_) ?_) ?_
  ·refine StepOkO.run (get_lit rfl) rfl (by omega) fun a W hS hB hd hR=> ?_
   have e9:=hS.get (t:=9) rfl rfl
   refine wp_value (c:= .agg #[.int .i64 1,.string x1,.int .u64 x2,.slice Ad ds.length cd,.int .u64 x4,.int .u64 x5,.string ⟨#[]⟩]) ?_ rfl
   obtain⟨c0,c1,c2,c3,c4,c5,c6⟩:=facts7 hR.2.1
   go_simp
  ·refine StepOkO.run (get_lit rfl) rfl (by omega) fun a W hS hB hd hR=> ?_
   have e8:=hS.get (t:=8) rfl rfl
   refine wp_value (c:= .pointer (some ⟨b+1,1,none⟩)) ?_ rfl
   go_simp
  ·refine StepOkO.run (get_lit rfl) rfl (by omega) fun a W hS hB hd hR=> ?_
   have e96:=(hd 1 rfl).bool rfl rfl rfl
   refine wp_value (c:= .int .i64 pp) ?_ rfl
   have c0:W.cell? ⟨b+1,0,none⟩=some (.string s):=(blk_cell hR.1 0).trans rfl
   have c1:W.cell? ⟨b+1,1,none⟩=some (.int .i64 pp):=(blk_cell hR.1 1).trans rfl
   have c2:W.cell? ⟨b+1,2,none⟩=some (.slice A T.length c):=(blk_cell hR.1 2).trans rfl
   go_simp
  ·refine StepOkO.run (get_lit rfl) rfl (by omega) fun a W hS hB hd hR=> ?_
   have e2:=hS.get (t:=2) rfl rfl
   refine wp_value (c:= .string s) ?_ rfl
   go_simp
  ·refine StepOkO.run (get_lit rfl) rfl (by omega) fun a W hS hB hd hR=> ?_
   have e98:=(hd 3 rfl).bool rfl rfl rfl
   refine wp_value (c:= .int .i64 (l.length:Int)) ?_ rfl
   have hsz9:=hss
   go_simp
  ·refine StepOkO.run (get_lit rfl) rfl (by omega) fun a W hS hB hd hR=> ?_
   have e97:=(hd 2 rfl).bool rfl rfl rfl
   have e99:=(hd 4 rfl).bool rfl rfl rfl
   refine wp_value (c:= .bool ok) ?_ rfl
   obtain⟨ho1,ho2⟩:=HOK.out
   go_simp
  ·refine StepOkO.write (get_lit rfl) rfl rfl rfl fun a W hS hB hd hR hP=> ?_
   have e6:=hS.get (t:=6) rfl rfl
   have e95:=(hd 0 rfl).bool rfl rfl rfl
   obtain⟨z0,zf0,z1,zf1,z2,zf2,z3,zf3,z4,zf4,z5,zf5,z6,zf6⟩:=facts7f hP
   refine⟨_, ?_,grown_put (grown_put (grown_put (grown_put (grown_put (grown_put (grown_put (World.grownBy.refl _ _) (.int .i64 1)) (.string x1)) (.int .u64 x2)) (.slice Ad ds.length cd)) (.int .u64 x4)) (.int .u64 x5)) (.string ⟨#[]⟩),blk_put7 hP _ _ _ _ _ _ _⟩
   go_simp
  ·refine StepOkO.run (get_lit rfl) rfl (by omega) fun a W hS hB hd hR=> ?_
   have e100:=(hd 5 rfl).bool rfl rfl rfl
   refine wp_value (c:= .bool ok) ?_ rfl
   go_simp
 ·intro a W hS hB hh hRD hFD
  have e7:a.tmps[7]? =some (.bool ok):=(hh 7 (by omega)).bool rfl rfl rfl
  have HBR:=hQ hB
  obtain⟨zz,hlit,hzz⟩:=same_litz hS
  clear hh hS hB
  simp only[List.filterMap_cons,List.filterMap_nil,List.foldl_cons,List.foldl_nil,List.setIfInBounds_toArray,List.set_cons_zero,List.set_cons_succ]at hlit
  rw[hzz 7 _ e7]at hlit
  clear e7
  clear hzz;subst hlit
  go_wp2_with fail
  refine bodyPost_ret (results_ct rfl _ _ b 49 #[_,_,_,_,_,_,_] (0,0) _ rfl hFD HU.out rfl (by kernel_rfl)) rfl ?_
  rw[←HEQ2.out]
  exact⟨_,rfl,Kd.R_mono (Kd.R_lower hRD.2.2 (by omega)) (fun _ _=>trivial),HBR.out⟩
theorem wlast_v3 {l:List Int} (hb: ∀x∈l,0≤x∧x<256) (hl:l.length≤1000000) (A:Option Addr) (c:Nat) (T:List ByteArray) (hT:T.length≤1000000) (w:World) (hC:Kd.C Kd.string w A T.length T) (hgd: ∀{k a1 e1:Int},cuNum l 0 0=(k,a1,e1)→k=1∧e1=0):
  Calls Tryz.prog 29 #[.int .i64 3,.slice A T.length c,.string (strOfNums l)] w (RLastPost w (lastW 3 T l)):=by
 have HNU:=hQ (fun(a e:Int) (W:World)=>wnum_is hb hl a e A T.length c W)
 have HNM:=hQ (fun(a e:Int) (W:World) (h:Below w.heap.size w W)=>wname_is 3 hb hl a e A c T hT W (Kd.C_below hC h))
 have HKN:=hQ (fun(a e m:Int) (hm:0≤m∧m<18446744073709551616) (W:World) (h:Below w.heap.size w W)=>wknown_is (strOfNums l) a e A c T hT m hm W (Kd.C_below hC h))
 have HDE:=hQ (fun(a e m:Int) (ha:0≤a∧a≤(l.length:Int)) (hm:0≤m∧m<18446744073709551616) (W:World) (h:Below w.heap.size w W)=>wdeps_is 3 hb hl a e ha A c T hT m hm W (Kd.C_below hC h))
 have hss:(strOfNums l).size=l.length:=strOfNums_size l
 obtain⟨s,hs⟩:=eX (strOfNums l)
 rw[hs]at HNU HNM HKN HDE hss ⊢
 have HN0:=hQ (HNU.out 0 0)
 have hst0:=cuNum_step l hb 0 0 ⟨by omega,by omega⟩
 obtain⟨F,hF⟩:=eX (lastW 3 T l)
 rw[hF]
 have HF:=hQ hF
 unfold lastW at hF
 have HBY:=hQ hb
 clear hC hs hb
 obtain⟨w1,hw1⟩:=eX (((w.alloc (.cells #[.int .i64 0,.string ⟨#[]⟩,.int .u64 0,.slice none 0 0,.int .u64 0,.int .u64 0,.string ⟨#[]⟩] 49)).alloc (.cells #[.string s,.int .i64 0,.slice A T.length c] 118)).alloc (.cells #[.int .i64 0,.string ⟨#[]⟩,.int .u64 0,.slice none 0 0,.int .u64 0,.int .u64 0,.string ⟨#[]⟩] 49))
 have hb1:Below w.heap.size w w1:=by rw[←hw1];exact(((Below.refl _ _).alloc (Nat.le_refl _) _).alloc (by rw[heap_size_alloc];omega) _).alloc (by rw[heap_size_alloc,heap_size_alloc];omega) _
 have hk6:w1.heap[w.heap.size]? =some (.cells #[.int .i64 0,.string ⟨#[]⟩,.int .u64 0,.slice none 0 0,.int .u64 0,.int .u64 0,.string ⟨#[]⟩] 49 (0,0)):=by rw[←hw1];exact blk_alloc (blk_alloc (heap_new _ _) _) _
 have hk8:w1.heap[w.heap.size+1]? =some (.cells #[.string s,.int .i64 0,.slice A T.length c] 118 (0,0)):=by
  rw[←hw1]
  have:=heap_new (w.alloc (.cells #[.int .i64 0,.string ⟨#[]⟩,.int .u64 0,.slice none 0 0,.int .u64 0,.int .u64 0,.string ⟨#[]⟩] 49)) (.cells #[.string s,.int .i64 0,.slice A T.length c] 118)
  rw[heap_size_alloc]at this
  exact blk_alloc this _
 have hk9:w1.heap[w.heap.size+2]? =some (.cells #[.int .i64 0,.string ⟨#[]⟩,.int .u64 0,.slice none 0 0,.int .u64 0,.int .u64 0,.string ⟨#[]⟩] 49 (0,0)):=by
  rw[←hw1]
  have:=heap_new ((w.alloc (.cells #[.int .i64 0,.string ⟨#[]⟩,.int .u64 0,.slice none 0 0,.int .u64 0,.int .u64 0,.string ⟨#[]⟩] 49)).alloc (.cells #[.string s,.int .i64 0,.slice A T.length c] 118)) (.cells #[.int .i64 0,.string ⟨#[]⟩,.int .u64 0,.slice none 0 0,.int .u64 0,.int .u64 0,.string ⟨#[]⟩] 49)
  rwa [heap_size_alloc,heap_size_alloc]at this
 obtain⟨b,hbb⟩:=eX (w.heap.size)
 rw[hbb]at hk6 hk8 hk9
 have HL1:Hid (LW w w1 b s A T.length c 0 0 ⟨#[]⟩ 0 (.slice none 0 0) [] 0 0 ⟨#[]⟩):=hQ ⟨hk6,hk8,hk9,Kd.R_nil _ _ _ _ _,hb1,hbb⟩
 have HW1:=hQ hw1
 have HBB:=hQ hbb
 have HU:=hQ Tryz.underlying49
 rw[show pl 0 0=0 from rfl]at HN0
 clear hk6 hk8 hk9 hb1 hw1 hbb
 generalize hN1:cuNum l 0 0=N1 at hF HN0 hst0
 obtain⟨k,a1,e1⟩:=N1
 dsimp only at hF HN0 hst0
 obtain⟨rfl,rfl⟩:=hgd hN1
 rw[if_neg (by omega)]at hF
 clear hgd
 unfold lastK at hF
 rw[if_pos rfl]at hF
 have c1:=HNM.out a1 0
 have s1:=textR_place (v:=3) (T:=T) HBY.out a1 0 ⟨by omega,hst0.1⟩
 generalize textR 3 T l a1 0=X1 at hF c1 s1
 obtain⟨x1,a2,e2⟩:=X1
 dsimp only at hF c1 s1
 unfold traceR at hF
 have c2:=HNU.out a2 e2
 have s2:=cuNum_step l HBY.out a2 e2
 have r2:=cuNum_rg (a:=a2) (e:=e2) HBY.out
 generalize cuNum l a2 e2=N2 at hF c2 s2 r2
 obtain⟨x2,a3,e3⟩:=N2
 dsimp only at hF c2 s2 r2
 have s2':=s2 s1
 have c3:=HNU.out a3 e3
 have s3:=cuNum_step l HBY.out a3 e3
 have r3:=cuNum_rg (a:=a3) (e:=e3) HBY.out
 generalize cuNum l a3 e3=N3 at hF c3 s3 r3
 obtain⟨nd,a4,e4⟩:=N3
 dsimp only at hF c3 s3 r3
 have s3':=s3 ⟨by omega,s2'.1⟩
 have c4:=HDE.out a4 e4 nd ⟨by omega,s3'.1⟩ r3
 generalize depsL 3 T l (l.length+2) nd a4 e4 []=DD at hF c4
 obtain⟨ds,a5,e5⟩:=DD
 dsimp only at hF c4
 have c5:=HNU.out a5 e5
 have s5:=cuNum_step l HBY.out a5 e5
 have r5:=cuNum_rg (a:=a5) (e:=e5) HBY.out
 generalize cuNum l a5 e5=N5 at hF c5 s5 r5
 obtain⟨x4,a6,e6⟩:=N5
 dsimp only at hF c5 s5 r5
 unfold tailR at hF
 rw[if_neg (by omega),if_neg (by omega)]at hF
 have c6:=HNU.out a6 e6
 have s6:=cuNum_step l HBY.out a6 e6
 have r6:=cuNum_rg (a:=a6) (e:=e6) HBY.out
 generalize cuNum l a6 e6=N6 at hF c6 s6 r6
 obtain⟨x5,a7,e7⟩:=N6
 dsimp only at hF c6 s6 r6
 have c7:=HNU.out a7 e7
 have s7:=cuNum_step l HBY.out a7 e7
 have r7:=cuNum_rg (a:=a7) (e:=e7) HBY.out
 generalize cuNum l a7 e7=N7 at hF c7 s7 r7
 obtain⟨m,a8,e8⟩:=N7
 dsimp only at hF c7 s7 r7
 by_cases hm:0<m
 ·have hmd:decide (0<m)=true:=decide_eq_true hm
  rw[if_pos hm]at hF
  have hwm:IntKind.u64.wrap (m-1)=m-1:=by rw[IntKind.wrap_u64];omega
  have c8:=HKN.out a8 e8 (m-1) ⟨by omega,by omega⟩
  generalize txF T (m-1)=x6 at hF c8
  generalize txE T (m-1) e8=e9 at hF c8
  try dsimp only at hF
  have hp1:decide (pl a1 0<0)=false:=by unfold pl;rw[if_pos rfl];exact decide_eq_false (by omega)
  have hn0:=HN0.out
  generalize pl a1 0=p1 at hF hn0 c1 c2 c3 c4 c5 c6 c7 c8 hp1
  generalize pl a2 e2=p2 at hF hn0 c1 c2 c3 c4 c5 c6 c7 c8
  generalize pl a3 e3=p3 at hF hn0 c1 c2 c3 c4 c5 c6 c7 c8
  generalize pl a4 e4=p4 at hF hn0 c1 c2 c3 c4 c5 c6 c7 c8
  generalize pl a5 e5=p5 at hF hn0 c1 c2 c3 c4 c5 c6 c7 c8
  generalize pl a6 e6=p6 at hF hn0 c1 c2 c3 c4 c5 c6 c7 c8
  generalize pl a7 e7=p7 at hF hn0 c1 c2 c3 c4 c5 c6 c7 c8
  generalize pl a8 e8=p8 at hF hn0 c1 c2 c3 c4 c5 c6 c7 c8
  generalize pl a8 e9=p9 at hF hn0 c1 c2 c3 c4 c5 c6 c7 c8
  have HEQ:=hQ hF
  have C1:=hQ c1
  have C2:=hQ c2
  have C3:=hQ c3
  have C4:=hQ c4
  have C5:=hQ c5
  have C6:=hQ c6
  have C7:=hQ c7
  have C8:=hQ c8
  replace HN0:=hQ hn0
  clear hF hN1 hst0 hn0 c1 c2 c3 c4 c5 c6 c7 c8 s1 s2 s3 s2' s3' s5 s6 s7
  have hkw:IntKind.i64.wrap 1=1:=by rw[IntKind.wrap_i64];omega
  go_enter Tryz.func29,Tryz.ntmps29
  go_wp2_with fail
  rw[HW1.out,HBB.out]
  refine(HN0.out w1).mono ?_
  rintro en y1 ⟨rfl,hb⟩
  have hl0:=HL1.out.below hb
  have hl1:=hl0
  obtain⟨wx0,wxf0,wx1,wxf1,wx2,wxf2⟩:=wf6 hl1.k8
  have hl2:=hl1.walk p1
  obtain⟨d0,d1,d2⟩:=wf3 hl2.k8
  have m0:(((y1.setCell ⟨b+1,0,none⟩ (.string s)).setCell ⟨b+1,1,none⟩ (.int .i64 p1)).setCell ⟨b+1,2,none⟩ (.slice A T.length c)).cell? ⟨b+1+1,0,none⟩=some (.int .i64 0):=(blk_cell hl2.k9 0).trans rfl
  have mf0:=blk_frozen hl2.k9 0
  have hl2:=hl2.field 0 (.int .i64 1) (k':=1) (x1':=⟨#[]⟩) (x2':=0) (dv':= .slice none 0 0) (ds':=[]) (x4':=0) (x5':=0) (x6':=⟨#[]⟩) hl2.row rfl
  obtain⟨n0,n1,n2⟩:=wf3 hl2.k8
  obtain⟨z1,hz⟩:=eX (((((y1.setCell ⟨b+1,0,none⟩ (.string s)).setCell ⟨b+1,1,none⟩ (.int .i64 p1)).setCell ⟨b+1,2,none⟩ (.slice A T.length c)).setCell ⟨b+1+1,0,none⟩ (.int .i64 1)))
  rw[hz]at hl2
  have HLz1:=hQ hl2
  have HWz1:=hQ hz
  clear hb hl0 hl1 hl2 hz
  go_wp2_with fail
  clear wx0 wxf0 wx1 wxf1 wx2 wxf2 d0 d1 d2 m0 mf0 n0 n1 n2
  rw[HWz1.out]
  refine(C1.out _ HLz1.out.bl).mono ?_
  rintro en y2 ⟨rfl,hb⟩
  have hl0:=HLz1.out.below hb
  have g1:y2.cell? ⟨b+1+1,1,none⟩=some (.string ⟨#[]⟩):=(blk_cell hl0.k9 1).trans rfl
  have gf1:=blk_frozen hl0.k9 1
  have hl1:=hl0.field 1 (.string x1) (k':=1) (x1':=x1) (x2':=0) (dv':= .slice none 0 0) (ds':=[]) (x4':=0) (x5':=0) (x6':=⟨#[]⟩) hl0.row rfl
  obtain⟨wx0,wxf0,wx1,wxf1,wx2,wxf2⟩:=wf6 hl1.k8
  have hl2:=hl1.walk p2
  obtain⟨d0,d1,d2⟩:=wf3 hl2.k8
  obtain⟨z2,hz⟩:=eX (((((y2.setCell ⟨b+1+1,1,none⟩ (.string x1)).setCell ⟨b+1,0,none⟩ (.string s)).setCell ⟨b+1,1,none⟩ (.int .i64 p2)).setCell ⟨b+1,2,none⟩ (.slice A T.length c)))
  rw[hz]at hl2
  have HLz2:=hQ hl2
  have HWz2:=hQ hz
  clear hb hl0 hl1 hl2 hz
  go_wp2_with fail
  clear wx0 wxf0 wx1 wxf1 wx2 wxf2 d0 d1 d2 g1 gf1
  rw[HWz2.out]
  refine(C2.out _).mono ?_
  rintro en y3 ⟨rfl,hb⟩
  have hl0:=HLz2.out.below hb
  have g2:y3.cell? ⟨b+1+1,2,none⟩=some (.int .u64 0):=(blk_cell hl0.k9 2).trans rfl
  have gf2:=blk_frozen hl0.k9 2
  have hl1:=hl0.field 2 (.int .u64 x2) (k':=1) (x1':=x1) (x2':=x2) (dv':= .slice none 0 0) (ds':=[]) (x4':=0) (x5':=0) (x6':=⟨#[]⟩) hl0.row rfl
  obtain⟨wx0,wxf0,wx1,wxf1,wx2,wxf2⟩:=wf6 hl1.k8
  have hl2:=hl1.walk p3
  obtain⟨d0,d1,d2⟩:=wf3 hl2.k8
  obtain⟨z3,hz⟩:=eX (((((y3.setCell ⟨b+1+1,2,none⟩ (.int .u64 x2)).setCell ⟨b+1,0,none⟩ (.string s)).setCell ⟨b+1,1,none⟩ (.int .i64 p3)).setCell ⟨b+1,2,none⟩ (.slice A T.length c)))
  rw[hz]at hl2
  have HLz3:=hQ hl2
  have HWz3:=hQ hz
  clear hb hl0 hl1 hl2 hz
  go_wp2_with fail
  clear wx0 wxf0 wx1 wxf1 wx2 wxf2 d0 d1 d2 g2 gf2
  rw[HWz3.out]
  refine(C3.out _).mono ?_
  rintro en y4 ⟨rfl,hb⟩
  have hl0:=HLz3.out.below hb
  have hl1:=hl0
  obtain⟨wx0,wxf0,wx1,wxf1,wx2,wxf2⟩:=wf6 hl1.k8
  have hl2:=hl1.walk p4
  obtain⟨d0,d1,d2⟩:=wf3 hl2.k8
  obtain⟨z4,hz⟩:=eX ((((y4.setCell ⟨b+1,0,none⟩ (.string s)).setCell ⟨b+1,1,none⟩ (.int .i64 p4)).setCell ⟨b+1,2,none⟩ (.slice A T.length c)))
  rw[hz]at hl2
  have HLz4:=hQ hl2
  have HWz4:=hQ hz
  clear hb hl0 hl1 hl2 hz
  go_wp2_with fail
  clear wx0 wxf0 wx1 wxf1 wx2 wxf2 d0 d1 d2
  rw[HWz4.out]
  refine(C4.out _ HLz4.out.bl).mono ?_
  rintro en y5 ⟨dv,rfl,hR,hb⟩
  obtain⟨Ad,cd,rfl⟩:=Kd.R_slice hR
  have hl0:=HLz4.out.below hb
  have g3:y5.cell? ⟨b+1+1,3,none⟩=some (.slice none 0 0):=(blk_cell hl0.k9 3).trans rfl
  have gf3:=blk_frozen hl0.k9 3
  have hl1:=hl0.field 3 (.slice Ad ds.length cd) (k':=1) (x1':=x1) (x2':=x2) (dv':= .slice Ad ds.length cd) (ds':=ds) (x4':=0) (x5':=0) (x6':=⟨#[]⟩) (Kd.R_lower hR (by have:=blk_lt HLz4.out.k9;omega)) rfl
  obtain⟨wx0,wxf0,wx1,wxf1,wx2,wxf2⟩:=wf6 hl1.k8
  have hl2:=hl1.walk p5
  obtain⟨d0,d1,d2⟩:=wf3 hl2.k8
  obtain⟨z5,hz⟩:=eX (((((y5.setCell ⟨b+1+1,3,none⟩ (.slice Ad ds.length cd)).setCell ⟨b+1,0,none⟩ (.string s)).setCell ⟨b+1,1,none⟩ (.int .i64 p5)).setCell ⟨b+1,2,none⟩ (.slice A T.length c)))
  rw[hz]at hl2
  have HLz5:=hQ hl2
  have HWz5:=hQ hz
  clear hb hl0 hl1 hl2 hz hR
  go_wp2_with fail
  clear wx0 wxf0 wx1 wxf1 wx2 wxf2 d0 d1 d2 g3 gf3
  rw[HWz5.out]
  refine(C5.out _).mono ?_
  rintro en y6 ⟨rfl,hb⟩
  have hl0:=HLz5.out.below hb
  have g4:y6.cell? ⟨b+1+1,4,none⟩=some (.int .u64 0):=(blk_cell hl0.k9 4).trans rfl
  have gf4:=blk_frozen hl0.k9 4
  have hl1:=hl0.field 4 (.int .u64 x4) (k':=1) (x1':=x1) (x2':=x2) (dv':= .slice Ad ds.length cd) (ds':=ds) (x4':=x4) (x5':=0) (x6':=⟨#[]⟩) hl0.row rfl
  obtain⟨wx0,wxf0,wx1,wxf1,wx2,wxf2⟩:=wf6 hl1.k8
  have hl2:=hl1.walk p6
  obtain⟨d0,d1,d2⟩:=wf3 hl2.k8
  obtain⟨z6,hz⟩:=eX (((((y6.setCell ⟨b+1+1,4,none⟩ (.int .u64 x4)).setCell ⟨b+1,0,none⟩ (.string s)).setCell ⟨b+1,1,none⟩ (.int .i64 p6)).setCell ⟨b+1,2,none⟩ (.slice A T.length c)))
  rw[hz]at hl2
  have HLz6:=hQ hl2
  have HWz6:=hQ hz
  clear hb hl0 hl1 hl2 hz
  go_wp2_with fail
  clear wx0 wxf0 wx1 wxf1 wx2 wxf2 d0 d1 d2 g4 gf4
  rw[HWz6.out]
  refine(C6.out _).mono ?_
  rintro en y7 ⟨rfl,hb⟩
  have hl0:=HLz6.out.below hb
  have g5:y7.cell? ⟨b+1+1,5,none⟩=some (.int .u64 0):=(blk_cell hl0.k9 5).trans rfl
  have gf5:=blk_frozen hl0.k9 5
  have hl1:=hl0.field 5 (.int .u64 x5) (k':=1) (x1':=x1) (x2':=x2) (dv':= .slice Ad ds.length cd) (ds':=ds) (x4':=x4) (x5':=x5) (x6':=⟨#[]⟩) hl0.row rfl
  obtain⟨wx0,wxf0,wx1,wxf1,wx2,wxf2⟩:=wf6 hl1.k8
  have hl2:=hl1.walk p7
  obtain⟨d0,d1,d2⟩:=wf3 hl2.k8
  obtain⟨z7,hz⟩:=eX (((((y7.setCell ⟨b+1+1,5,none⟩ (.int .u64 x5)).setCell ⟨b+1,0,none⟩ (.string s)).setCell ⟨b+1,1,none⟩ (.int .i64 p7)).setCell ⟨b+1,2,none⟩ (.slice A T.length c)))
  rw[hz]at hl2
  have HLz7:=hQ hl2
  have HWz7:=hQ hz
  clear hb hl0 hl1 hl2 hz
  go_wp2_with fail
  clear wx0 wxf0 wx1 wxf1 wx2 wxf2 d0 d1 d2 g5 gf5
  rw[HWz7.out]
  refine(C7.out _).mono ?_
  rintro en y8 ⟨rfl,hb⟩
  have hl0:=HLz7.out.below hb
  have hl1:=hl0
  obtain⟨wx0,wxf0,wx1,wxf1,wx2,wxf2⟩:=wf6 hl1.k8
  have hl2:=hl1.walk p8
  obtain⟨d0,d1,d2⟩:=wf3 hl2.k8
  obtain⟨z8,hz⟩:=eX ((((y8.setCell ⟨b+1,0,none⟩ (.string s)).setCell ⟨b+1,1,none⟩ (.int .i64 p8)).setCell ⟨b+1,2,none⟩ (.slice A T.length c)))
  rw[hz]at hl2
  have HLz8:=hQ hl2
  have HWz8:=hQ hz
  clear hb hl0 hl1 hl2 hz
  go_wp2_with fail
  clear wx0 wxf0 wx1 wxf1 wx2 wxf2 d0 d1 d2
  rw[HWz8.out]
  refine(C8.out _ HLz8.out.bl).mono ?_
  rintro en y9 ⟨rfl,hb⟩
  have hl0:=HLz8.out.below hb
  have g6:y9.cell? ⟨b+1+1,6,none⟩=some (.string ⟨#[]⟩):=(blk_cell hl0.k9 6).trans rfl
  have gf6:=blk_frozen hl0.k9 6
  have hl1:=hl0.field 6 (.string x6) (k':=1) (x1':=x1) (x2':=x2) (dv':= .slice Ad ds.length cd) (ds':=ds) (x4':=x4) (x5':=x5) (x6':=x6) hl0.row rfl
  obtain⟨wx0,wxf0,wx1,wxf1,wx2,wxf2⟩:=wf6 hl1.k8
  have hl2:=hl1.walk p9
  obtain⟨d0,d1,d2⟩:=wf3 hl2.k8
  obtain⟨z9,hz⟩:=eX (((((y9.setCell ⟨b+1+1,6,none⟩ (.string x6)).setCell ⟨b+1,0,none⟩ (.string s)).setCell ⟨b+1,1,none⟩ (.int .i64 p9)).setCell ⟨b+1,2,none⟩ (.slice A T.length c)))
  rw[hz]at hl2
  have HLz9:=hQ hl2
  have HWz9:=hQ hz
  clear hb hl0 hl1 hl2 hz
  go_wp2_with fail
  clear wx0 wxf0 wx1 wxf1 wx2 wxf2 d0 d1 d2 g6 gf6
  rw[HWz9.out]
  have hl9:=HLz9.out
  obtain⟨pp,hpp⟩:=eX (p9)
  rw[hpp]at hl9
  have heq:=HEQ.out
  rw[hpp]at heq
  have HL9:=hQ hl9
  have HPP:=hQ hpp
  obtain⟨ok,hok⟩:=eX (decide (pp=(l.length:Int)))
  have hok2:(pp==(l.length:Int))=ok:=by rw[←hok,Bool.eq_iff_iff];simp
  rw[hok]at heq
  have HEQ2:=hQ heq
  clear heq
  have HOK:=hQ (And.intro hok hok2)
  have kT1:=And.intro hl9.k8 (And.intro hl9.k9 (Kd.R_mono (ok':=fun k=>k≠b) (Kd.R_bound hl9.row) (fun k hk=>by have:=hk.2.1;omega)))
  have kT3:=hl9.k6
  have hsz:=hl9.bl.size
  have hb3w:=HBB.out
  clear hl9 hpp hok hok2
  refine region_one (n:=8) (base:=w.heap.size) (w0:=w) (b:=b) (jw:=6) (byList [isV (.agg #[.int .i64 1,.string x1,.int .u64 x2,.slice Ad ds.length cd,.int .u64 x4,.int .u64 x5,.string x6]),isV (.pointer (some ⟨b+1,1,none⟩)),isV (.int .i64 pp),isV (.string s),isV (.int .i64 (l.length:Int)),isV (.bool ok),(fun _ _=>True),isV (.bool ok)]) (fun W=>W.heap[b+1]? =some (.cells #[.string s,.int .i64 pp,.slice A T.length c] 118 (0,0))∧W.heap[b+1+1]? =some (.cells #[.int .i64 1,.string x1,.int .u64 x2,.slice Ad ds.length cd,.int .u64 x4,.int .u64 x5,.string x6] 49 (0,0))∧Kd.R k129 129 W (b+3) (fun k=>k≠b) (.slice Ad ds.length cd) (ds)) (fun W=>W.heap[b]? =some (.cells #[.int .i64 0,.string ⟨#[]⟩,.int .u64 0,.slice none 0 0,.int .u64 0,.int .u64 0,.string ⟨#[]⟩] 49 (0,0))) (fun W=>W.heap[b]? =some (.cells #[.int .i64 1,.string x1,.int .u64 x2,.slice Ad ds.length cd,.int .u64 x4,.int .u64 x5,.string x6] 49 (0,0))) (by kernel_rfl) rfl (by omega) (byList_any ?_) (by kernel_rfl) (by kernel_rfl) (by omega) (fun W W' row hrow h hg=>⟨blk_grown' h.1 hg (by rcases hrow with rfl|rfl<;>simp<;>omega),blk_grown' h.2.1 hg (by rcases hrow with rfl|rfl<;>simp<;>omega),Kd.R_grown h.2.2 hg (fun k hk=>by rcases hrow with rfl|rfl<;>simp;omega)⟩) (fun W W' h hg=>blk_below h (below_none hg)) (fun W W' h hg=>blk_below h (below_none hg)) HL9.out.bl (Nat.le_refl _) kT1 kT3 (show AllLt 8 _ from ?_) ?_
  ·intro p hp
   simp only[List.mem_cons,List.not_mem_nil,or_false]at hp
   rcases hp with rfl|rfl|rfl|rfl|rfl|rfl|rfl|rfl<;>exact fun _ _ _ h=>h
  ·refine allLt_succ (allLt_succ (allLt_succ (allLt_succ (allLt_succ (allLt_succ (allLt_succ (allLt_succ (allLt_zero _) ?_) ?_) ?_) ?_) ?_) ?_) ?_) ?_
   ·refine StepOkO.run (get_lit rfl) rfl (by omega) fun a W hS hB hd hR=> ?_
    have e9:=hS.get (t:=9) rfl rfl
    refine wp_value (c:= .agg #[.int .i64 1,.string x1,.int .u64 x2,.slice Ad ds.length cd,.int .u64 x4,.int .u64 x5,.string x6]) ?_ rfl
    obtain⟨c0,c1,c2,c3,c4,c5,c6⟩:=facts7 hR.2.1
    go_simp
   ·refine StepOkO.run (get_lit rfl) rfl (by omega) fun a W hS hB hd hR=> ?_
    have e8:=hS.get (t:=8) rfl rfl
    refine wp_value (c:= .pointer (some ⟨b+1,1,none⟩)) ?_ rfl
    go_simp
   ·refine StepOkO.run (get_lit rfl) rfl (by omega) fun a W hS hB hd hR=> ?_
    have e96:=(hd 1 rfl).bool rfl rfl rfl
    refine wp_value (c:= .int .i64 pp) ?_ rfl
    have c0:W.cell? ⟨b+1,0,none⟩=some (.string s):=(blk_cell hR.1 0).trans rfl
    have c1:W.cell? ⟨b+1,1,none⟩=some (.int .i64 pp):=(blk_cell hR.1 1).trans rfl
    have c2:W.cell? ⟨b+1,2,none⟩=some (.slice A T.length c):=(blk_cell hR.1 2).trans rfl
    go_simp
   ·refine StepOkO.run (get_lit rfl) rfl (by omega) fun a W hS hB hd hR=> ?_
    have e2:=hS.get (t:=2) rfl rfl
    refine wp_value (c:= .string s) ?_ rfl
    go_simp
   ·refine StepOkO.run (get_lit rfl) rfl (by omega) fun a W hS hB hd hR=> ?_
    have e98:=(hd 3 rfl).bool rfl rfl rfl
    refine wp_value (c:= .int .i64 (l.length:Int)) ?_ rfl
    have hsz9:=hss
    go_simp
   ·refine StepOkO.run (get_lit rfl) rfl (by omega) fun a W hS hB hd hR=> ?_
    have e97:=(hd 2 rfl).bool rfl rfl rfl
    have e99:=(hd 4 rfl).bool rfl rfl rfl
    refine wp_value (c:= .bool ok) ?_ rfl
    obtain⟨ho1,ho2⟩:=HOK.out
    go_simp
   ·refine StepOkO.write (get_lit rfl) rfl rfl rfl fun a W hS hB hd hR hP=> ?_
    have e6:=hS.get (t:=6) rfl rfl
    have e95:=(hd 0 rfl).bool rfl rfl rfl
    obtain⟨z0,zf0,z1,zf1,z2,zf2,z3,zf3,z4,zf4,z5,zf5,z6,zf6⟩:=facts7f hP
    refine⟨_, ?_,grown_put (grown_put (grown_put (grown_put (grown_put (grown_put (grown_put (World.grownBy.refl _ _) (.int .i64 1)) (.string x1)) (.int .u64 x2)) (.slice Ad ds.length cd)) (.int .u64 x4)) (.int .u64 x5)) (.string x6),blk_put7 hP _ _ _ _ _ _ _⟩
    go_simp
   ·refine StepOkO.run (get_lit rfl) rfl (by omega) fun a W hS hB hd hR=> ?_
    have e100:=(hd 5 rfl).bool rfl rfl rfl
    refine wp_value (c:= .bool ok) ?_ rfl
    go_simp
  ·intro a W hS hB hh hRD hFD
   have e7:a.tmps[7]? =some (.bool ok):=(hh 7 (by omega)).bool rfl rfl rfl
   have HBR:=hQ hB
   obtain⟨zz,hlit,hzz⟩:=same_litz hS
   clear hh hS hB
   simp only[List.filterMap_cons,List.filterMap_nil,List.foldl_cons,List.foldl_nil,List.setIfInBounds_toArray,List.set_cons_zero,List.set_cons_succ]at hlit
   rw[hzz 7 _ e7]at hlit
   clear e7
   clear hzz;subst hlit
   go_wp2_with fail
   refine bodyPost_ret (results_ct rfl _ _ b 49 #[_,_,_,_,_,_,_] (0,0) _ rfl hFD HU.out rfl (by kernel_rfl)) rfl ?_
   rw[←HEQ2.out]
   exact⟨_,rfl,Kd.R_mono (Kd.R_lower hRD.2.2 (by omega)) (fun _ _=>trivial),HBR.out⟩
 ·have hmd:decide (0<m)=false:=decide_eq_false hm
  rw[if_neg hm]at hF
  try dsimp only at hF
  have hp1:decide (pl a1 0<0)=false:=by unfold pl;rw[if_pos rfl];exact decide_eq_false (by omega)
  have hn0:=HN0.out
  generalize pl a1 0=p1 at hF hn0 c1 c2 c3 c4 c5 c6 c7 hp1
  generalize pl a2 e2=p2 at hF hn0 c1 c2 c3 c4 c5 c6 c7
  generalize pl a3 e3=p3 at hF hn0 c1 c2 c3 c4 c5 c6 c7
  generalize pl a4 e4=p4 at hF hn0 c1 c2 c3 c4 c5 c6 c7
  generalize pl a5 e5=p5 at hF hn0 c1 c2 c3 c4 c5 c6 c7
  generalize pl a6 e6=p6 at hF hn0 c1 c2 c3 c4 c5 c6 c7
  generalize pl a7 e7=p7 at hF hn0 c1 c2 c3 c4 c5 c6 c7
  generalize pl a8 e8=p8 at hF hn0 c1 c2 c3 c4 c5 c6 c7
  have HEQ:=hQ hF
  have C1:=hQ c1
  have C2:=hQ c2
  have C3:=hQ c3
  have C4:=hQ c4
  have C5:=hQ c5
  have C6:=hQ c6
  have C7:=hQ c7
  replace HN0:=hQ hn0
  clear hF hN1 hst0 hn0 c1 c2 c3 c4 c5 c6 c7 s1 s2 s3 s2' s3' s5 s6 s7
  have hkw:IntKind.i64.wrap 1=1:=by rw[IntKind.wrap_i64];omega
  go_enter Tryz.func29,Tryz.ntmps29
  go_wp2_with fail
  rw[HW1.out,HBB.out]
  refine(HN0.out w1).mono ?_
  rintro en y10 ⟨rfl,hb⟩
  have hl0:=HL1.out.below hb
  have hl1:=hl0
  obtain⟨wx0,wxf0,wx1,wxf1,wx2,wxf2⟩:=wf6 hl1.k8
  have hl2:=hl1.walk p1
  obtain⟨d0,d1,d2⟩:=wf3 hl2.k8
  have m0:(((y10.setCell ⟨b+1,0,none⟩ (.string s)).setCell ⟨b+1,1,none⟩ (.int .i64 p1)).setCell ⟨b+1,2,none⟩ (.slice A T.length c)).cell? ⟨b+1+1,0,none⟩=some (.int .i64 0):=(blk_cell hl2.k9 0).trans rfl
  have mf0:=blk_frozen hl2.k9 0
  have hl2:=hl2.field 0 (.int .i64 1) (k':=1) (x1':=⟨#[]⟩) (x2':=0) (dv':= .slice none 0 0) (ds':=[]) (x4':=0) (x5':=0) (x6':=⟨#[]⟩) hl2.row rfl
  obtain⟨n0,n1,n2⟩:=wf3 hl2.k8
  obtain⟨z10,hz⟩:=eX (((((y10.setCell ⟨b+1,0,none⟩ (.string s)).setCell ⟨b+1,1,none⟩ (.int .i64 p1)).setCell ⟨b+1,2,none⟩ (.slice A T.length c)).setCell ⟨b+1+1,0,none⟩ (.int .i64 1)))
  rw[hz]at hl2
  have HLz10:=hQ hl2
  have HWz10:=hQ hz
  clear hb hl0 hl1 hl2 hz
  go_wp2_with fail
  clear wx0 wxf0 wx1 wxf1 wx2 wxf2 d0 d1 d2 m0 mf0 n0 n1 n2
  rw[HWz10.out]
  refine(C1.out _ HLz10.out.bl).mono ?_
  rintro en y11 ⟨rfl,hb⟩
  have hl0:=HLz10.out.below hb
  have g1:y11.cell? ⟨b+1+1,1,none⟩=some (.string ⟨#[]⟩):=(blk_cell hl0.k9 1).trans rfl
  have gf1:=blk_frozen hl0.k9 1
  have hl1:=hl0.field 1 (.string x1) (k':=1) (x1':=x1) (x2':=0) (dv':= .slice none 0 0) (ds':=[]) (x4':=0) (x5':=0) (x6':=⟨#[]⟩) hl0.row rfl
  obtain⟨wx0,wxf0,wx1,wxf1,wx2,wxf2⟩:=wf6 hl1.k8
  have hl2:=hl1.walk p2
  obtain⟨d0,d1,d2⟩:=wf3 hl2.k8
  obtain⟨z11,hz⟩:=eX (((((y11.setCell ⟨b+1+1,1,none⟩ (.string x1)).setCell ⟨b+1,0,none⟩ (.string s)).setCell ⟨b+1,1,none⟩ (.int .i64 p2)).setCell ⟨b+1,2,none⟩ (.slice A T.length c)))
  rw[hz]at hl2
  have HLz11:=hQ hl2
  have HWz11:=hQ hz
  clear hb hl0 hl1 hl2 hz
  go_wp2_with fail
  clear wx0 wxf0 wx1 wxf1 wx2 wxf2 d0 d1 d2 g1 gf1
  rw[HWz11.out]
  refine(C2.out _).mono ?_
  rintro en y12 ⟨rfl,hb⟩
  have hl0:=HLz11.out.below hb
  have g2:y12.cell? ⟨b+1+1,2,none⟩=some (.int .u64 0):=(blk_cell hl0.k9 2).trans rfl
  have gf2:=blk_frozen hl0.k9 2
  have hl1:=hl0.field 2 (.int .u64 x2) (k':=1) (x1':=x1) (x2':=x2) (dv':= .slice none 0 0) (ds':=[]) (x4':=0) (x5':=0) (x6':=⟨#[]⟩) hl0.row rfl
  obtain⟨wx0,wxf0,wx1,wxf1,wx2,wxf2⟩:=wf6 hl1.k8
  have hl2:=hl1.walk p3
  obtain⟨d0,d1,d2⟩:=wf3 hl2.k8
  obtain⟨z12,hz⟩:=eX (((((y12.setCell ⟨b+1+1,2,none⟩ (.int .u64 x2)).setCell ⟨b+1,0,none⟩ (.string s)).setCell ⟨b+1,1,none⟩ (.int .i64 p3)).setCell ⟨b+1,2,none⟩ (.slice A T.length c)))
  rw[hz]at hl2
  have HLz12:=hQ hl2
  have HWz12:=hQ hz
  clear hb hl0 hl1 hl2 hz
  go_wp2_with fail
  clear wx0 wxf0 wx1 wxf1 wx2 wxf2 d0 d1 d2 g2 gf2
  rw[HWz12.out]
  refine(C3.out _).mono ?_
  rintro en y13 ⟨rfl,hb⟩
  have hl0:=HLz12.out.below hb
  have hl1:=hl0
  obtain⟨wx0,wxf0,wx1,wxf1,wx2,wxf2⟩:=wf6 hl1.k8
  have hl2:=hl1.walk p4
  obtain⟨d0,d1,d2⟩:=wf3 hl2.k8
  obtain⟨z13,hz⟩:=eX ((((y13.setCell ⟨b+1,0,none⟩ (.string s)).setCell ⟨b+1,1,none⟩ (.int .i64 p4)).setCell ⟨b+1,2,none⟩ (.slice A T.length c)))
  rw[hz]at hl2
  have HLz13:=hQ hl2
  have HWz13:=hQ hz
  clear hb hl0 hl1 hl2 hz
  go_wp2_with fail
  clear wx0 wxf0 wx1 wxf1 wx2 wxf2 d0 d1 d2
  rw[HWz13.out]
  refine(C4.out _ HLz13.out.bl).mono ?_
  rintro en y14 ⟨dv,rfl,hR,hb⟩
  obtain⟨Ad,cd,rfl⟩:=Kd.R_slice hR
  have hl0:=HLz13.out.below hb
  have g3:y14.cell? ⟨b+1+1,3,none⟩=some (.slice none 0 0):=(blk_cell hl0.k9 3).trans rfl
  have gf3:=blk_frozen hl0.k9 3
  have hl1:=hl0.field 3 (.slice Ad ds.length cd) (k':=1) (x1':=x1) (x2':=x2) (dv':= .slice Ad ds.length cd) (ds':=ds) (x4':=0) (x5':=0) (x6':=⟨#[]⟩) (Kd.R_lower hR (by have:=blk_lt HLz13.out.k9;omega)) rfl
  obtain⟨wx0,wxf0,wx1,wxf1,wx2,wxf2⟩:=wf6 hl1.k8
  have hl2:=hl1.walk p5
  obtain⟨d0,d1,d2⟩:=wf3 hl2.k8
  obtain⟨z14,hz⟩:=eX (((((y14.setCell ⟨b+1+1,3,none⟩ (.slice Ad ds.length cd)).setCell ⟨b+1,0,none⟩ (.string s)).setCell ⟨b+1,1,none⟩ (.int .i64 p5)).setCell ⟨b+1,2,none⟩ (.slice A T.length c)))
  rw[hz]at hl2
  have HLz14:=hQ hl2
  have HWz14:=hQ hz
  clear hb hl0 hl1 hl2 hz hR
  go_wp2_with fail
  clear wx0 wxf0 wx1 wxf1 wx2 wxf2 d0 d1 d2 g3 gf3
  rw[HWz14.out]
  refine(C5.out _).mono ?_
  rintro en y15 ⟨rfl,hb⟩
  have hl0:=HLz14.out.below hb
  have g4:y15.cell? ⟨b+1+1,4,none⟩=some (.int .u64 0):=(blk_cell hl0.k9 4).trans rfl
  have gf4:=blk_frozen hl0.k9 4
  have hl1:=hl0.field 4 (.int .u64 x4) (k':=1) (x1':=x1) (x2':=x2) (dv':= .slice Ad ds.length cd) (ds':=ds) (x4':=x4) (x5':=0) (x6':=⟨#[]⟩) hl0.row rfl
  obtain⟨wx0,wxf0,wx1,wxf1,wx2,wxf2⟩:=wf6 hl1.k8
  have hl2:=hl1.walk p6
  obtain⟨d0,d1,d2⟩:=wf3 hl2.k8
  obtain⟨z15,hz⟩:=eX (((((y15.setCell ⟨b+1+1,4,none⟩ (.int .u64 x4)).setCell ⟨b+1,0,none⟩ (.string s)).setCell ⟨b+1,1,none⟩ (.int .i64 p6)).setCell ⟨b+1,2,none⟩ (.slice A T.length c)))
  rw[hz]at hl2
  have HLz15:=hQ hl2
  have HWz15:=hQ hz
  clear hb hl0 hl1 hl2 hz
  go_wp2_with fail
  clear wx0 wxf0 wx1 wxf1 wx2 wxf2 d0 d1 d2 g4 gf4
  rw[HWz15.out]
  refine(C6.out _).mono ?_
  rintro en y16 ⟨rfl,hb⟩
  have hl0:=HLz15.out.below hb
  have g5:y16.cell? ⟨b+1+1,5,none⟩=some (.int .u64 0):=(blk_cell hl0.k9 5).trans rfl
  have gf5:=blk_frozen hl0.k9 5
  have hl1:=hl0.field 5 (.int .u64 x5) (k':=1) (x1':=x1) (x2':=x2) (dv':= .slice Ad ds.length cd) (ds':=ds) (x4':=x4) (x5':=x5) (x6':=⟨#[]⟩) hl0.row rfl
  obtain⟨wx0,wxf0,wx1,wxf1,wx2,wxf2⟩:=wf6 hl1.k8
  have hl2:=hl1.walk p7
  obtain⟨d0,d1,d2⟩:=wf3 hl2.k8
  obtain⟨z16,hz⟩:=eX (((((y16.setCell ⟨b+1+1,5,none⟩ (.int .u64 x5)).setCell ⟨b+1,0,none⟩ (.string s)).setCell ⟨b+1,1,none⟩ (.int .i64 p7)).setCell ⟨b+1,2,none⟩ (.slice A T.length c)))
  rw[hz]at hl2
  have HLz16:=hQ hl2
  have HWz16:=hQ hz
  clear hb hl0 hl1 hl2 hz
  go_wp2_with fail
  clear wx0 wxf0 wx1 wxf1 wx2 wxf2 d0 d1 d2 g5 gf5
  rw[HWz16.out]
  refine(C7.out _).mono ?_
  rintro en y17 ⟨rfl,hb⟩
  have hl0:=HLz16.out.below hb
  have hl1:=hl0
  obtain⟨wx0,wxf0,wx1,wxf1,wx2,wxf2⟩:=wf6 hl1.k8
  have hl2:=hl1.walk p8
  obtain⟨d0,d1,d2⟩:=wf3 hl2.k8
  obtain⟨z17,hz⟩:=eX ((((y17.setCell ⟨b+1,0,none⟩ (.string s)).setCell ⟨b+1,1,none⟩ (.int .i64 p8)).setCell ⟨b+1,2,none⟩ (.slice A T.length c)))
  rw[hz]at hl2
  have HLz17:=hQ hl2
  have HWz17:=hQ hz
  clear hb hl0 hl1 hl2 hz
  go_wp2_with fail
  clear wx0 wxf0 wx1 wxf1 wx2 wxf2 d0 d1 d2
  rw[HWz17.out]
  have hl9:=HLz17.out
  obtain⟨pp,hpp⟩:=eX (p8)
  rw[hpp]at hl9
  have heq:=HEQ.out
  rw[hpp]at heq
  have HL9:=hQ hl9
  have HPP:=hQ hpp
  obtain⟨ok,hok⟩:=eX (decide (pp=(l.length:Int)))
  have hok2:(pp==(l.length:Int))=ok:=by rw[←hok,Bool.eq_iff_iff];simp
  rw[hok]at heq
  have HEQ2:=hQ heq
  clear heq
  have HOK:=hQ (And.intro hok hok2)
  have kT1:=And.intro hl9.k8 (And.intro hl9.k9 (Kd.R_mono (ok':=fun k=>k≠b) (Kd.R_bound hl9.row) (fun k hk=>by have:=hk.2.1;omega)))
  have kT3:=hl9.k6
  have hsz:=hl9.bl.size
  have hb3w:=HBB.out
  clear hl9 hpp hok hok2
  refine region_one (n:=8) (base:=w.heap.size) (w0:=w) (b:=b) (jw:=6) (byList [isV (.agg #[.int .i64 1,.string x1,.int .u64 x2,.slice Ad ds.length cd,.int .u64 x4,.int .u64 x5,.string ⟨#[]⟩]),isV (.pointer (some ⟨b+1,1,none⟩)),isV (.int .i64 pp),isV (.string s),isV (.int .i64 (l.length:Int)),isV (.bool ok),(fun _ _=>True),isV (.bool ok)]) (fun W=>W.heap[b+1]? =some (.cells #[.string s,.int .i64 pp,.slice A T.length c] 118 (0,0))∧W.heap[b+1+1]? =some (.cells #[.int .i64 1,.string x1,.int .u64 x2,.slice Ad ds.length cd,.int .u64 x4,.int .u64 x5,.string ⟨#[]⟩] 49 (0,0))∧Kd.R k129 129 W (b+3) (fun k=>k≠b) (.slice Ad ds.length cd) (ds)) (fun W=>W.heap[b]? =some (.cells #[.int .i64 0,.string ⟨#[]⟩,.int .u64 0,.slice none 0 0,.int .u64 0,.int .u64 0,.string ⟨#[]⟩] 49 (0,0))) (fun W=>W.heap[b]? =some (.cells #[.int .i64 1,.string x1,.int .u64 x2,.slice Ad ds.length cd,.int .u64 x4,.int .u64 x5,.string ⟨#[]⟩] 49 (0,0))) (by kernel_rfl) rfl (by omega) (byList_any ?_) (by kernel_rfl) (by kernel_rfl) (by omega) (fun W W' row hrow h hg=>⟨blk_grown' h.1 hg (by rcases hrow with rfl|rfl<;>simp<;>omega),blk_grown' h.2.1 hg (by rcases hrow with rfl|rfl<;>simp<;>omega),Kd.R_grown h.2.2 hg (fun k hk=>by rcases hrow with rfl|rfl<;>simp;omega)⟩) (fun W W' h hg=>blk_below h (below_none hg)) (fun W W' h hg=>blk_below h (below_none hg)) HL9.out.bl (Nat.le_refl _) kT1 kT3 (show AllLt 8 _ from ?_) ?_
  ·intro p hp
   simp only[List.mem_cons,List.not_mem_nil,or_false]at hp
   rcases hp with rfl|rfl|rfl|rfl|rfl|rfl|rfl|rfl<;>exact fun _ _ _ h=>h
  ·refine allLt_succ (allLt_succ (allLt_succ (allLt_succ (allLt_succ (allLt_succ (allLt_succ (allLt_succ (allLt_zero _) ?_) ?_) ?_) ?_) ?_) ?_) ?_) ?_
   ·refine StepOkO.run (get_lit rfl) rfl (by omega) fun a W hS hB hd hR=> ?_
    have e9:=hS.get (t:=9) rfl rfl
    refine wp_value (c:= .agg #[.int .i64 1,.string x1,.int .u64 x2,.slice Ad ds.length cd,.int .u64 x4,.int .u64 x5,.string ⟨#[]⟩]) ?_ rfl
    obtain⟨c0,c1,c2,c3,c4,c5,c6⟩:=facts7 hR.2.1
    go_simp
   ·refine StepOkO.run (get_lit rfl) rfl (by omega) fun a W hS hB hd hR=> ?_
    have e8:=hS.get (t:=8) rfl rfl
    refine wp_value (c:= .pointer (some ⟨b+1,1,none⟩)) ?_ rfl
    go_simp
   ·refine StepOkO.run (get_lit rfl) rfl (by omega) fun a W hS hB hd hR=> ?_
    have e96:=(hd 1 rfl).bool rfl rfl rfl
    refine wp_value (c:= .int .i64 pp) ?_ rfl
    have c0:W.cell? ⟨b+1,0,none⟩=some (.string s):=(blk_cell hR.1 0).trans rfl
    have c1:W.cell? ⟨b+1,1,none⟩=some (.int .i64 pp):=(blk_cell hR.1 1).trans rfl
    have c2:W.cell? ⟨b+1,2,none⟩=some (.slice A T.length c):=(blk_cell hR.1 2).trans rfl
    go_simp
   ·refine StepOkO.run (get_lit rfl) rfl (by omega) fun a W hS hB hd hR=> ?_
    have e2:=hS.get (t:=2) rfl rfl
    refine wp_value (c:= .string s) ?_ rfl
    go_simp
   ·refine StepOkO.run (get_lit rfl) rfl (by omega) fun a W hS hB hd hR=> ?_
    have e98:=(hd 3 rfl).bool rfl rfl rfl
    refine wp_value (c:= .int .i64 (l.length:Int)) ?_ rfl
    have hsz9:=hss
    go_simp
   ·refine StepOkO.run (get_lit rfl) rfl (by omega) fun a W hS hB hd hR=> ?_
    have e97:=(hd 2 rfl).bool rfl rfl rfl
    have e99:=(hd 4 rfl).bool rfl rfl rfl
    refine wp_value (c:= .bool ok) ?_ rfl
    obtain⟨ho1,ho2⟩:=HOK.out
    go_simp
   ·refine StepOkO.write (get_lit rfl) rfl rfl rfl fun a W hS hB hd hR hP=> ?_
    have e6:=hS.get (t:=6) rfl rfl
    have e95:=(hd 0 rfl).bool rfl rfl rfl
    obtain⟨z0,zf0,z1,zf1,z2,zf2,z3,zf3,z4,zf4,z5,zf5,z6,zf6⟩:=facts7f hP
    refine⟨_, ?_,grown_put (grown_put (grown_put (grown_put (grown_put (grown_put (grown_put (World.grownBy.refl _ _) (.int .i64 1)) (.string x1)) (.int .u64 x2)) (.slice Ad ds.length cd)) (.int .u64 x4)) (.int .u64 x5)) (.string ⟨#[]⟩),blk_put7 hP _ _ _ _ _ _ _⟩
    go_simp
   ·refine StepOkO.run (get_lit rfl) rfl (by omega) fun a W hS hB hd hR=> ?_
    have e100:=(hd 5 rfl).bool rfl rfl rfl
    refine wp_value (c:= .bool ok) ?_ rfl
    go_simp
  ·intro a W hS hB hh hRD hFD
   have e7:a.tmps[7]? =some (.bool ok):=(hh 7 (by omega)).bool rfl rfl rfl
   have HBR:=hQ hB
   obtain⟨zz,hlit,hzz⟩:=same_litz hS
   clear hh hS hB
   simp only[List.filterMap_cons,List.filterMap_nil,List.foldl_cons,List.foldl_nil,List.setIfInBounds_toArray,List.set_cons_zero,List.set_cons_succ]at hlit
   rw[hzz 7 _ e7]at hlit
   clear e7
   clear hzz;subst hlit
   go_wp2_with fail
   refine bodyPost_ret (results_ct rfl _ _ b 49 #[_,_,_,_,_,_,_] (0,0) _ rfl hFD HU.out rfl (by kernel_rfl)) rfl ?_
   rw[←HEQ2.out]
   exact⟨_,rfl,Kd.R_mono (Kd.R_lower hRD.2.2 (by omega)) (fun _ _=>trivial),HBR.out⟩
end Go.Proofs.YtfflenbfapgilaaGreat
namespace Go.Proofs.YtfflenbfapgilaaGreat
open Go.Proofs.YtfflenbfapgilaaGreat.GRR
theorem wlast_is (v:Int) (hv:1≤v∧v≤3) {l:List Int} (hb: ∀x∈l,0≤x∧x<256) (hl:l.length≤1000000) (A:Option Addr) (c:Nat) (T:List ByteArray) (hT:T.length≤1000000) (w:World) (hC:Kd.C Kd.string w A T.length T):
  Calls Tryz.prog 29 #[.int .i64 v,.slice A T.length c,.string (strOfNums l)] w (RLastPost w (lastW v T l)):=by
 obtain⟨N1,hN1⟩:=eX (cuNum l 0 0)
 obtain⟨k,a1,e1⟩:=N1
 have hx: ∀{k' a' e':Int},cuNum l 0 0=(k',a',e')→k'=k∧e'=e1:=fun h=>by rw[hN1]at h;cases h;exact⟨rfl,rfl⟩
 by_cases hbad:e1≠0∨(k≠1∧k≠2)
 ·exact wlast_bad v hb hl A c T hT w hC (fun h=>by obtain⟨rfl,rfl⟩:=hx h;exact hbad)
 ·by_cases hk:k=1
  ·have hv3:v=1∨v=2∨v=3:=by omega
   rcases hv3 with rfl|rfl|rfl
   ·exact wlast_v1 hb hl A c T hT w hC (fun h=>by obtain⟨rfl,rfl⟩:=hx h;omega)
   ·exact wlast_v2 hb hl A c T hT w hC (fun h=>by obtain⟨rfl,rfl⟩:=hx h;omega)
   ·exact wlast_v3 hb hl A c T hT w hC (fun h=>by obtain⟨rfl,rfl⟩:=hx h;omega)
  ·exact wlast_g2 v hb hl A c T hT w hC (fun h=>by obtain⟨rfl,rfl⟩:=hx h;omega)
theorem vb_kind (n:Nat) (h:n=1∨n=2):ints (vb n)=[(n:Int)]:=by rw[vb_small n (by omega)];rfl
theorem kind_byte {l:List Int} (hb: ∀x∈l,0≤x∧x<256) {k a e:Int} (h:cuNum l 0 0=(k,a,e)) (he:e=0) (hk:k=1∨k=2):cuByte l 0 0=(k,a,e):=by
 subst he
 unfold cuNum at h
 rw[if_neg (by simp)]at h
 rcases getS_cases l hb 0 with⟨ec,h1,h2⟩|⟨lo,n,p,ha,h1,h2,h3,h4,h5⟩
 ·rw[h1,if_pos (by show ec≠0;omega)]at h
  cases h
  omega
 ·rw [h1,if_neg (by simp)]at h
  cases h
  obtain rfl:lo=0:=by omega
  rw[List.drop_zero,vb_kind n (by omega)]at h5
  have hp:p=1:=by
   have:=congrArg List.length h5
   rw[List.length_take,List.length_singleton]at this
   omega
  subst hp
  unfold cuByte
  rw[if_neg (by simp),if_neg (by omega)]
  have hr:rd l 0=(n:Int):=by
   match l,h3 with
   |x::r,_=>
    simp at h5
    simp[rd,h5]
  rw[hr]
  rfl
theorem kind_num {l:List Int} {k:Int} (hk:k=1∨k=2) (h: ∃r,l=k::r):cuNum l 0 0=(k,1,0):=by
 obtain⟨r,rfl⟩:=h
 have hv:=cuNum_vb [] k r (by omega)
 have e:ints (vb k.toNat)=[k]:=by rw[vb_kind _ (by omega),Int.toNat_of_nonneg (by omega)]
 rw[e]at hv
 simpa using hv
theorem lastW_yes {v:Int} {T:List ByteArray} {l:List Int} (hb: ∀x∈l,0≤x∧x<256) (h:(lastW v T l).2=true):(lastW v T l).1=(lastR v T l).1:=by
 unfold lastW at h ⊢
 obtain⟨N1,hN1⟩:=eX (cuNum l 0 0)
 rw[hN1]at h ⊢
 obtain⟨k,a1,e1⟩:=N1
 dsimp only at h ⊢
 by_cases hbad:e1≠0∨(k≠1∧k≠2)
 ·rw[if_pos hbad]at h;cases h
 ·rw[if_neg hbad]at h ⊢
  rw[lastR_K,kind_byte hb hN1 (by omega) (by omega)]
def getW (v:Int) (T:List ByteArray) (ps:List (List Int)) (a n:Nat):Rec9×Int×List ByteArray×Int:=
 let R:=lastW v (tnewOn T (((ps.drop a).take (n-a)).map defS)) (ps.getD n [])
 let F:=putF v T R.1.1 R.1.2.1 R.1.2.2.1 R.1.2.2.2.1 R.1.2.2.2.2.1 R.1.2.2.2.2.2.1 R.1.2.2.2.2.2.2
 if R.2=true∧F.2.2=0∧F.1=(ps.take (n+1)).drop a then(R.1,((n+1:Nat):Int),F.2.1,0)else(rec0,0,T,3)
theorem seg_last {α:Type} {A:List α} {x:α} {ps:List α} {a n:Nat} (d:α) (ha:a≤n) (hn:n<ps.length) (h:A++[x]=(ps.take (n+1)).drop a):A=(ps.drop a).take (n-a)∧ps.getD n d=x:=by
 rw[List.take_succ_eq_append_getElem hn,List.drop_append_of_le_length (by rw[List.length_take];omega)]at h
 obtain⟨h1,h2⟩:=List.append_inj' h rfl
 refine⟨by rw[h1,List.drop_take], ?_⟩
 have:=(List.singleton_inj.1 h2)
 rw[this]
 simp[hn]
theorem getW_is {v:Int} {T:List ByteArray} (hT:T.length≤100000) (hd:T.Nodup) (hs: ∀s∈T,s.size≤maxLen) {ps:List (List Int)} (hps: ∀p∈ps,p.length≤3000∧∀x∈p,0≤x∧x<256) {a n:Nat} (ha:a≤n) (hn:n<ps.length):
  getW v T ps a n=getG v T ps a n (lastR v (tnewOn T (((ps.drop a).take (n-a)).map defS)) (ps.getD n [])).1:=by
 obtain⟨al,hal⟩:=eX (tnewOn T (((ps.drop a).take (n-a)).map defS))
 have hpm:ps.getD n []∈ps:=by
  have e:ps.getD n []=ps[n]:=by simp[hn]
  rw[e];exact List.getElem_mem _
 obtain⟨p,hp⟩:=eX (ps.getD n [])
 rw[hp]at hpm
 have hb:=(hps p hpm).2
 unfold getW getG
 rw[hal,hp]
 dsimp only
 cases hW:(lastW v al p).2 with
 |true=>
  rw[lastW_yes hb hW]
  by_cases hc:(putF v T (lastR v al p).1.1 (lastR v al p).1.2.1 (lastR v al p).1.2.2.1 (lastR v al p).1.2.2.2.1 (lastR v al p).1.2.2.2.2.1 (lastR v al p).1.2.2.2.2.2.1 (lastR v al p).1.2.2.2.2.2.2).2.2=0∧(putF v T (lastR v al p).1.1 (lastR v al p).1.2.1 (lastR v al p).1.2.2.1 (lastR v al p).1.2.2.2.1 (lastR v al p).1.2.2.2.2.1 (lastR v al p).1.2.2.2.2.2.1 (lastR v al p).1.2.2.2.2.2.2).1=(ps.take (n+1)).drop a
  ·rw[if_pos ⟨rfl,hc⟩,if_pos hc]
  ·rw[if_neg (fun h=>hc h.2),if_neg hc]
 | false=>
  rw[if_neg (by rintro⟨h,_⟩;cases h)]
  rw[if_neg]
  rintro⟨h1,h2⟩
  have hsz: ∀s∈al,s.size≤maxLen:=by
   intro s hsm
   rw[←hal,mem_tnewOn]at hsm
   rcases hsm with hsm|hsm
   ·exact hs s hsm
   ·obtain⟨q,hq,rfl⟩:=List.mem_map.1 hsm
    have hqm:q∈ps:=List.mem_of_mem_drop (List.mem_of_mem_take hq)
    unfold defS
    rw[strOfNums_size,List.length_tail]
    have:=(hps q hqm).1
    simp only[maxLen]
    omega
  have hrg:=lastR_rg (v:=v) (T:=al) (l:=p) hsz hb (by have:=(hps p hpm).1;omega)
  have hlw: ∀r,r=(lastR v al p).1→(lastW v al p).2=true:=by
   intro r hr
   rw[←hr]at h1 h2 hrg
   have hm:mayR v r=true:=putF_yes h1
   have M:=may_facts hm
   have e:=putF_may T hm
   unfold putR at e
   rw[e]at h2
   dsimp only at h2
   obtain⟨T',hT'⟩: ∃T',(if 1<v then tnewOn T (tnew (namesL r.2.1 r.2.2.2.1 r.2.2.2.2.2.2))else T)=T':=⟨_,rfl⟩
   rw[hT']at h2
   obtain⟨g1,g2⟩:=seg_last [] ha hn h2
   have hall:al=T':=by
    rw[←hal,←g1,←hT']
    split
    ·exact tnewOn_more hd _
    ·rw[moreE_self];rfl
   have hnw:=names_few (x1:=r.2.1) (l:=r.2.2.2.1) (x6:=r.2.2.2.2.2.2) M.t.2 M.n (fun d hd=>(M.d d hd).2.1) M.tag.1
   have hlen:T'.length≤1000000:=by
    rw[←hT']
    split
    ·have:=tnewOn_len T (tnew (namesL r.2.1 r.2.2.2.1 r.2.2.2.2.2.2));omega
    ·omega
   have hrt:=lastR_rt v T' hlen r.1 r.2.1 r.2.2.1 r.2.2.2.1 r.2.2.2.2.1 r.2.2.2.2.2.1 r.2.2.2.2.2.2 hm hrg.r2 hrg.o hrg.w (fun d hd=>(hrg.d d hd).2) (fun hv s hs=>by
    rw[←hT',if_pos (by have:=M.ver;omega),mem_tnewOn,mem_tnew]
    exact .inr hs)
   have hpe:p=lastE v T' r.1 r.2.1 r.2.2.1 r.2.2.2.1 r.2.2.2.2.1 r.2.2.2.2.2.1 r.2.2.2.2.2.2:=hp.symm.trans g2
   have hk0: ∃q,p=r.1::q:=by
    rw[hpe];unfold lastE;rw[List.append_assoc];exact⟨_,rfl⟩
   have hkn:=kind_num M.k hk0
   rw[←hpe,←hall]at hrt
   rw[lastR_K,kind_byte hb hkn rfl M.k]at hrt
   unfold lastW
   rw[hkn]
   dsimp only at hrt ⊢
   rw[if_neg (by have:=M.k;omega),hrt]
   unfold pl
   simp
  have:=hlw _ rfl
  rw[hW]at this
  cases this
def posI8 (l:List ByteArray) (s:ByteArray):Int:=if isIn l s then(posOf l s:Int)else -1
theorem place_l08 (l:List ByteArray) (hl:l.length≤1000000) (s:ByteArray): ∀(d i k:Nat),l.length=i+d→d<k→s ∉ l.take i→tephraref07_Place.l0 k l s (i:Int)=some (posI8 l s):=by
 intro d
 induction d with
 |zero=>
  intro i k hi hk hn
  obtain⟨k,rfl⟩: ∃m,k=m+1:=⟨k-1,by omega⟩
  simp only[tephraref07_Place.l0]
  rw[if_neg (by omega)]
  rw[List.take_of_length_le (by omega)]at hn
  unfold posI8;rw[isIn_ne.2 hn];rfl
 | succ d ih=>
  intro i k hi hk hn
  obtain⟨k,rfl⟩: ∃m,k=m+1:=⟨k-1,by omega⟩
  have hlt:i<l.length:=by omega
  have hz:rdOf ByteArray.empty l (i:Int)=l[i]:=by simp[rdOf,hlt]
  simp only[tephraref07_Place.l0]
  rw[if_pos (by omega),if_pos (by omega),hz,Lib.toList_data,Lib.toList_data]
  by_cases e:l[i].data.toList=s.data.toList
  ·rw [if_pos e]
   have e2:l[i]=s:=ByteArray.ext (Array.ext' e)
   have hm:s∈l:=by rw[←e2];exact List.getElem_mem _
   unfold posI8
   rw[isIn_iff.2 hm,if_pos rfl]
   congr 1
   have h1:l=l.take i++l.drop i:=(List.take_append_drop i l).symm
   have h2:posOf l s=(l.take i).length+posOf (l.drop i) s:=by
    conv=>lhs;rw[h1]
    exact posOf_app_not hn
   rw[List.length_take,List.drop_eq_getElem_cons hlt,e2]at h2
   have h3:posOf (s::l.drop (i+1)) s=0:=by unfold posOf;rw[List.findIdx_cons,sEq_refl];rfl
   rw[h3]at h2
   omega
  ·rw[if_neg e]
   have hw:wrap64 ((i:Int)+1)=((i+1:Nat):Int):=by unfold wrap64;omega
   rw[hw]
   refine ih (i+1) k (by omega) (by omega) ?_
   rw[List.take_succ_eq_append_getElem hlt,List.mem_append,List.mem_singleton]
   rintro (h|h)
   ·exact hn h
   ·exact e (by rw[h])
theorem place_is8 (l:List ByteArray) (hl:l.length≤1000000) (s:ByteArray) (k:Nat) (hk:l.length<k):tephraref07_Place.f k l s=some (posI8 l s):=by
 unfold tephraref07_Place.f
 exact place_l08 l hl s l.length 0 k (by omega) hk (by simp)
theorem posI8_ge (l:List ByteArray) (s:ByteArray):posI8 l s≥0↔s∈l:=by
 unfold posI8
 cases h:isIn l s with
 |true=>simp;exact isIn_iff.1 h
 |false=>simp;exact isIn_ne.1 h
theorem rput_is8 (l:List ByteArray) (hl:l.length≤1000000) (s:ByteArray) (k:Nat) (hk:l.length<k):tephraref07_Put.f k l s=some (tput l s):=by
 unfold tephraref07_Put.f
 rw[place_is8 l hl s k hk]
 simp only[Option.bind_some,List.nil_append,List.length_nil]
 by_cases hs:s∈l
 ·rw[if_pos ((posI8_ge l s).2 hs),tput_in hs]
 ·rw[if_neg (fun h=>hs ((posI8_ge l s).1 h)),if_pos (by omega),if_pos (by omega),tput_out hs]
theorem rnew_is8 (ts:List ByteArray) (hl:ts.length≤1000): ∀(d i k:Nat),ts.length=i+d→2000+d<k→tephraref07_New.l0 k ts (tnew (ts.take i)) (i:Int)=some (tnew ts):=by
 intro d
 induction d with
 |zero=>
  intro i k hi hk
  obtain⟨k,rfl⟩: ∃m,k=m+1:=⟨k-1,by omega⟩
  simp only[tephraref07_New.l0]
  rw[if_neg (by omega),List.take_of_length_le (by omega)]
 |succ d ih=>
  intro i k hi hk
  obtain⟨k,rfl⟩: ∃m,k=m+1:=⟨k-1,by omega⟩
  have hlt:i<ts.length:=by omega
  have hz:rdOf ByteArray.empty ts (i:Int)=ts[i]:=by simp[rdOf,hlt]
  have hln:=tnew_len (ts.take i)
  rw[List.length_take]at hln
  simp only[tephraref07_New.l0]
  rw[if_pos (by omega),if_pos (by omega),hz,rput_is8 _ (by omega) _ _ (by omega)]
  simp only[Option.bind_some]
  have hw:wrap64 ((i:Int)+1)=((i+1:Nat):Int):=by unfold wrap64;omega
  rw[hw,←tnew_take ts i hlt]
  exact ih (i+1) k (by omega) (by omega)
theorem names_l0 (a0:Int) (t:ByteArray) (a2:Int) (l:List S129) (a4 a5:Int) (tag:ByteArray) (hl:l.length≤900): ∀(d i k:Nat),l.length=i+d→5000+d<k→
  tephraref08_Names.l0 k (t::(l.take i).map (·.f0)) (i:Int) a0 t a2 l a4 a5 tag=some (tnew (namesL t l tag)):=by
 intro d
 induction d with
 | zero=>
  intro i k hi hk
  obtain⟨k,rfl⟩: ∃m,k=m+1:=⟨k-1,by omega⟩
  rw[List.take_of_length_le (by omega)]
  simp only[tephraref08_Names.l0]
  rw[if_neg (by omega)]
  unfold namesL tephraref07_New.f
  split
  ·rename_i h
   rw[List.append_nil]
   have:=rnew_is8 (t::l.map (·.f0)) (by simp;omega) (t::l.map (·.f0)).length 0 k (by omega) (by simp;omega)
   rw[List.take_zero]at this
   have h0:tephraref07_New.l0 k (t::l.map (·.f0)) ([]:List ByteArray) 0=some (tnew (t::l.map (·.f0))):=this
   rw[h0];rfl
  ·rw[if_pos (by simp;omega)]
   have:=rnew_is8 (t::l.map (·.f0)++[tag]) (by simp;omega) (t::l.map (·.f0)++[tag]).length 0 k (by omega) (by simp;omega)
   rw[List.take_zero]at this
   have h0:tephraref07_New.l0 k (t::l.map (·.f0)++[tag]) ([]:List ByteArray) 0=some (tnew (t::l.map (·.f0)++[tag])):=this
   rw[h0];rfl
 |succ d ih=>
  intro i k hi hk
  obtain⟨k,rfl⟩: ∃m,k=m+1:=⟨k-1,by omega⟩
  have hlt:i<l.length:=by omega
  simp only[tephraref08_Names.l0]
  rw[if_pos (by omega),if_pos (by omega),if_pos (by simp;omega),rd_dep l i hlt,wr1 i l.length hlt (by omega),List.cons_append,←names_take hlt]
  exact ih (i+1) k (by omega) (by omega)
theorem names_is (a0:Int) (t:ByteArray) (a2:Int) (l:List S129) (a4 a5:Int) (tag:ByteArray) (hl:l.length≤900) (k:Nat) (hk:6000<k):tephraref08_Names.f k a0 t a2 l a4 a5 tag=some (tnew (namesL t l tag)):=by
 unfold tephraref08_Names.f
 exact names_l0 a0 t a2 l a4 a5 tag hl l.length 0 k (by omega) (by omega)
theorem atI_pos {T:List ByteArray} {s:ByteArray} (h:s∈T):posI8 T s=atI T s:=by unfold posI8 atI;rw[isIn_iff.2 h];rfl
theorem rtput_any (A:Option Addr) (c:Nat) (T:List ByteArray) (s:ByteArray) (W:World) (hC:Kd.C Kd.string W A T.length T) (hc:T.length≤c) (hT:T.length≤1000000):
  Calls Tryz.prog 28 #[.slice A T.length c,.string s] W fun e W'=>∃A' c',e= .returned (.slice A' (tput T s).length c')∧(tput T s).length≤c'∧Kd.C Kd.string W' A' (tput T s).length (tput T s)∧Below W.heap.size W W'∧(s ∉ T→Kd.R Kd.string 9 W' W.heap.size (fun _=>True) (.slice A' (tput T s).length c') (tput T s)):=by
 have HP:=hQ (tephraref07_Place.calls (T.length+1) A c T s (posI8 T s) W hC hc (place_is8 T hT s _ (by omega)))
 have HC:=hQ hC
 have hge:=posI8_ge T s
 by_cases hs:s∈T
 ·rw[tput_in hs]
  have hd:decide (0≤posI8 T s)=true:=decide_eq_true (hge.2 hs)
  have HIN:=hQ hs
  clear hC hge hs
  generalize posI8 T s=q at*
  go_enter Tryz.func28,Tryz.ntmps28
  go_wp2_with fail
  refine HP.out.mono ?_
  rintro e w1 ⟨rfl,hdr⟩
  have hb:=hdr.below
  have HB:=hQ hb
  clear hdr hb HP
  go_wp2_with fail
  go_ret
  exact⟨A,c,rfl,hc,Kd.C_below HC.out HB.out,HB.out,fun h=>absurd HIN.out h⟩
 ·rw[tput_out hs]
  have hd:decide (0≤posI8 T s)=false:=decide_eq_false (fun h=>hs (hge.1 h))
  clear hC hge hs
  generalize posI8 T s=q at*
  go_enter Tryz.func28,Tryz.ntmps28
  go_wp2_with fail
  refine HP.out.mono ?_
  rintro e w1 ⟨rfl,hdr⟩
  have hb:=hdr.below
  have HB:=hQ hb
  clear hdr hb HP
  go_wp2_with (at_builtin;refine Halt.mk ?_)
  refine Halt.of ?_
  have hb2:Below w1.heap.size w1 (w1.alloc (.cells #[] 9)):=(Below.refl _ _).alloc (Nat.le_refl _) _
  have hR2:=R_empty Kd.string (w1.alloc (.cells #[] 9)) w1.heap.size w1.heap.size 9 (fun _=>True) (heap_new _ _) (Nat.le_refl _) trivial
  have HC2:=Kd.C_below (Kd.C_below HC.out HB.out) hb2
  refine Kd.R_append_rows Kd.string (w0:=w1) w1.heap.size rfl (.tmp 10) (.tmp 11) 52 9 (.string ⟨#[]⟩) 16 rfl Tryz.underlying52 info_str9 rfl (by decide) (by omega) _ [] T _ _ _ (fun _=>True) (fun _=>False) rfl rfl hR2 HC2 ?_ (fun _ h=>h.elim) (fun _ _=>trivial) hb2 hb2.size (by simp only[List.length_nil];omega) ?_
  ·intro x cs h;exact h
  intro v3 w3 hR3 hb3 _ _
  rw[List.nil_append]at hR3
  have HR3:=hQ hR3
  have HB3:=hQ hb3
  obtain⟨A3,c3,rfl⟩:=Kd.R_slice hR3
  clear hR3 hb3 hR2 HC2 hb2
  go_wp2_with (at_builtin;refine Halt.mk ?_)
  refine Halt.of ?_
  have hb4:Below w3.heap.size w3 (w3.alloc (.cells #[.string s] 9)):=(Below.refl _ _).alloc (Nat.le_refl _) _
  have hk4:(w3.alloc (.cells #[.string s] 9)).heap[w3.heap.size]? =some (.cells #[.string s] 9 (0,0)):=heap_new _ _
  have hB4:=HB3.out.trans (hb4.mono HB3.out.size)
  refine Kd.R_append_rows Kd.string (w0:=w1) w1.heap.size rfl (.tmp 12) (.tmp 14) 52 9 (.string ⟨#[]⟩) 16 rfl Tryz.underlying52 info_str9 rfl (by decide) (by omega) _ T [s] _ _ _ (fun _=>True) (fun _=>False) rfl rfl (Kd.R_below HR3.out hb4) (row_val s hk4) ?_ (fun _ h=>h.elim) (fun _ _=>trivial) hB4 hB4.size (by omega) ?_
  ·rintro _ _ ⟨rfl,rfl⟩;rfl
  intro v5 w5 hR5 hb5 _ _
  obtain⟨A5,c5,rfl⟩:=Kd.R_slice hR5
  have HR5:=hQ (Kd.R_reads' hR5)
  have HRR:=hQ (Kd.R_lower hR5 HB.out.size)
  have HB5:=hQ (HB.out.trans (hb5.mono HB.out.size))
  clear hR5 hb5 hb4 hk4 hB4
  go_wp2_with fail
  go_ret
  have hl5:(T++[s]).length=T.length+1:=by simp
  exact⟨A5,c5,rfl,hl5 ▸ HR5.out.2.1,hl5 ▸ HR5.out.2.2,HB5.out,fun _=>by have:=HRR.out;rwa [hl5]at this⟩
theorem rtext9_any (v:Int) (A:Option Addr) (c:Nat) (T:List ByteArray) (s:ByteArray) (W:World) (hC:Kd.C Kd.string W A T.length T) (hc:T.length≤c) (hT:T.length≤1000000) (hs:s.size≤1000000) (hin:v≠1→s∈T):
  Calls Tryz.prog 59 #[.int .i64 v,.slice A T.length c,.string s] W fun e W'=>e= .returned (.string (strOfNums (textE v T s)))∧Below W.heap.size W W':=by
 by_cases hv:v=1
 ·have hd:decide (v=1)=true:=decide_eq_true hv
  have hd2:(v==1)=true:=by simp[hv]
  have HB:=hQ (rbput_any s (by omega))
  unfold textE
  rw[if_pos hv]
  clear hC hin hv
  go_enter Tryz.func59,Tryz.ntmps59
  go_wp2_with fail
  refine(HB.out _).mono ?_
  rintro e w1 ⟨rfl,hb⟩
  go_wp2_with fail
  go_ret
  exact⟨rfl,hb⟩
 ·have hd:decide (v=1)=false:=decide_eq_false hv
  have hd2:(v==1)=false:=by simp[hv]
  have hs2:=hin hv
  have HP:=hQ (tephraref07_Place.calls (T.length+1) A c T s (posI8 T s) W hC hc (place_is8 T hT s _ (by omega)))
  rw[atI_pos hs2]at HP
  have hbd:=atI_bd T s hT
  obtain⟨q,hq⟩: ∃q:Nat,atI T s=(q:Int):=⟨(atI T s).toNat,by omega⟩
  have HPU:=hQ (refput_any q (by omega))
  unfold textE numE
  rw[if_neg hv]
  rw[hq]at HP hbd ⊢
  rw[Int.toNat_natCast]
  have hw:IntKind.u64.wrap (q:Int)=(q:Int):=by rw[IntKind.wrap_u64];omega
  clear hC hin hv hs2 hq hbd
  go_enter Tryz.func59,Tryz.ntmps59
  go_wp2_with fail
  refine HP.out.mono ?_
  rintro e w1 ⟨rfl,hdr⟩
  have hb1:=hdr.below
  have HB1:=hQ hb1
  clear hdr hb1 HP
  go_wp2_with fail
  refine(HPU.out w1).mono ?_
  rintro e w2 ⟨rfl,hb⟩
  go_wp2_with fail
  go_ret
  exact⟨rfl,HB1.out.trans (hb.mono HB1.out.size)⟩
theorem xeq_no {a b:ByteArray} (h: ¬a=b):a≠b∧a.toList≠b.toList∧(a.toList==b.toList)=false:=by
 have h2:a.toList≠b.toList:=fun e=>h (tl_eq.1 e)
 exact⟨h,h2,by simpa using h2⟩
theorem met_no {l:List S129} {j:Nat} {f0 d0:ByteArray} (hj:(l.take (j+1)).map (·.f0)=(l.take j).map (·.f0)++[f0]) (hn:d0 ∉ (l.take j).map (·.f0)) (hf: ¬f0=d0):d0 ∉ (l.take (j+1)).map (·.f0):=by
 rw[hj,List.mem_append]
 intro h
 rcases h with h|h
 ·exact hn h
 ·simp only[List.mem_singleton]at h
  exact hf h.symm
theorem met_yes {l:List S129} {j i:Nat} {f0:ByteArray} {D M:Bool} (hj:(l.take (j+1)).map (·.f0)=(l.take j).map (·.f0)++[f0]) (hji:j+1≤i) (h:(!isIn ((l.take i).map (·.f0)) f0&&D)=M):false=M:=by
 have h2:l.take i=l.take (j+1)++(l.take i).drop (j+1):=by
  have h:=(List.take_append_drop (j+1) (l.take i)).symm
  rwa [List.take_take,Nat.min_eq_left hji]at h
 rw[←h,isIn_iff.2 (by rw[h2,List.map_append];exact List.mem_append_left _ (by rw[hj];simp))]
 simp
theorem bae_iff {s:ByteArray}:s=ByteArray.empty↔s.size=0:=⟨fun h=>by rw[h];rfl,fun h=>ByteArray.ext (Array.eq_empty_of_size_eq_zero h)⟩
theorem tl_empty (s:ByteArray):s.toList.isEmpty=decide (s.size=0):=by rw[Bool.eq_iff_iff,List.isEmpty_iff,decide_eq_true_eq,tl_nil]
theorem rmay_v (v k0:Int) (x1:ByteArray) (x2:Int) (ds:List S129) (x4 x5:Int) (x6:ByteArray) (A:Option Addr) (c:Nat) (w:World) (hC:Kd.C k129 w A ds.length ds) (hv: ¬(1≤v∧v≤3)):
  Calls Tryz.prog 56 #[.int .i64 v,.agg #[.int .i64 k0,.string x1,.int .u64 x2,.slice A ds.length c,.int .u64 x4,.int .u64 x5,.string x6]] w fun e w'=>e= .returned (.bool false)∧Below w.heap.size w w':=by
 have hm:=hC.2.1
 obtain⟨w1,hw1⟩:=eX (w.alloc (.cells #[.int .i64 k0,.string x1,.int .u64 x2,.slice A ds.length c,.int .u64 x4,.int .u64 x5,.string x6] 49))
 have hb1:Below w.heap.size w w1:=by rw[←hw1];exact(Below.refl _ _).alloc (Nat.le_refl _) _
 have HB1:=hQ hb1
 have HW1:=hQ hw1
 have HC:=hQ hC
 clear hC hb1 hw1
 go_enter Tryz.func56,Tryz.ntmps56
 by_cases h1:v<1
 ·have d1:decide (v<1)=true:=decide_eq_true h1
  go_wp2_with fail
  rw[HW1.out]
  go_ret
  exact⟨rfl,HB1.out⟩
 ·have d1:decide (v<1)=false:=decide_eq_false h1
  have d2:decide (3<v)=true:=decide_eq_true (by omega)
  go_wp2_with fail
  rw[HW1.out]
  go_ret
  exact⟨rfl,HB1.out⟩
theorem rmay_n (v k0:Int) (x1:ByteArray) (x2:Int) (ds:List S129) (x4 x5:Int) (x6:ByteArray) (A:Option Addr) (c:Nat) (w:World) (hC:Kd.C k129 w A ds.length ds) (hv:1≤v∧v≤3) (hn:nameB x1=false):
  Calls Tryz.prog 56 #[.int .i64 v,.agg #[.int .i64 k0,.string x1,.int .u64 x2,.slice A ds.length c,.int .u64 x4,.int .u64 x5,.string x6]] w fun e w'=>e= .returned (.bool false)∧Below w.heap.size w w':=by
 have hm:=hC.2.1
 obtain⟨w1,hw1⟩:=eX (w.alloc (.cells #[.int .i64 k0,.string x1,.int .u64 x2,.slice A ds.length c,.int .u64 x4,.int .u64 x5,.string x6] 49))
 have hb1:Below w.heap.size w w1:=by rw[←hw1];exact(Below.refl _ _).alloc (Nat.le_refl _) _
 have HB1:=hQ hb1
 have HW1:=hQ hw1
 have HC:=hQ hC
 have d1:decide (v<1)=false:=decide_eq_false (by omega)
 have d2:decide (3<v)=false:=decide_eq_false (by omega)
 clear hC hb1 hw1
 go_enter Tryz.func56,Tryz.ntmps56
 go_wp2_with fail
 rw[HW1.out]
 refine(tephraref08_Name.calls x1 _ _ (rname_is x1)).mono ?_
 rintro e w2 ⟨rfl,hd2⟩
 rw[hn]
 have HB2:=hQ (HB1.out.trans (hd2.below.mono HB1.out.size))
 clear hd2
 go_wp2_with fail
 go_ret
 exact⟨rfl,HB2.out⟩
theorem rmay_2t (v k0:Int) (x1:ByteArray) (x2:Int) (ds:List S129) (x4 x5:Int) (x6:ByteArray) (A:Option Addr) (c:Nat) (w:World) (hC:Kd.C k129 w A ds.length ds) (hv:1≤v∧v≤3) (hn:nameB x1=true) (hk:k0=2) (hb:x2=0∧ds.length=0∧x4=0∧x5=0∧x6.size=0):
  Calls Tryz.prog 56 #[.int .i64 v,.agg #[.int .i64 k0,.string x1,.int .u64 x2,.slice A ds.length c,.int .u64 x4,.int .u64 x5,.string x6]] w fun e w'=>e= .returned (.bool true)∧Below w.heap.size w w':=by
 have hm:=hC.2.1
 obtain⟨w1,hw1⟩:=eX (w.alloc (.cells #[.int .i64 k0,.string x1,.int .u64 x2,.slice A ds.length c,.int .u64 x4,.int .u64 x5,.string x6] 49))
 have hb1:Below w.heap.size w w1:=by rw[←hw1];exact(Below.refl _ _).alloc (Nat.le_refl _) _
 have HB1:=hQ hb1
 have HW1:=hQ hw1
 have HC:=hQ hC
 have hk1:w1.heap[w.heap.size]? =some (.cells #[.int .i64 k0,.string x1,.int .u64 x2,.slice A ds.length c,.int .u64 x4,.int .u64 x5,.string x6] 49 (0,0)):=by rw[←hw1];exact heap_new _ _
 obtain⟨b1,hbb⟩:=eX (w.heap.size)
 rw[hbb]at hk1
 have HK1:=hQ hk1
 have HBB:=hQ hbb
 clear hk1 hbb
 have d1:decide (v<1)=false:=decide_eq_false (by omega)
 have d2:decide (3<v)=false:=decide_eq_false (by omega)
 obtain⟨h2,h3,h4,h5,h6⟩:=hb
 subst hk h2 h4 h5
 have H3:=hQ h3
 have H6:=hQ h6
 clear h3 h6
 clear hC hb1 hw1
 go_enter Tryz.func56,Tryz.ntmps56
 go_wp2_with fail
 rw[HW1.out,HBB.out]
 refine(tephraref08_Name.calls x1 _ _ (rname_is x1)).mono ?_
 rintro e w2 ⟨rfl,hd2⟩
 rw[hn]
 have HB2:=hQ (HB1.out.trans (hd2.below.mono HB1.out.size))
 have hk2:=blk_below HK1.out hd2.below
 have HK2:=hQ hk2
 have q0:=(blk_cell hk2 0).trans rfl
 have q1:=(blk_cell hk2 1).trans rfl
 have q2:=(blk_cell hk2 2).trans rfl
 have q3:=(blk_cell hk2 3).trans rfl
 have q4:=(blk_cell hk2 4).trans rfl
 have q5:=(blk_cell hk2 5).trans rfl
 have q6:=(blk_cell hk2 6).trans rfl
 clear hd2 hk2
 go_wp2_with fail
 all_goals first|(go_ret;refine⟨?_,HB2.out⟩;first|rfl|exact congrArg (fun b=>Ending.returned (.bool b)) (decide_eq_true (bae_iff.2 H6.out))|exact congrArg (fun b=>Ending.returned (.bool b)) ((tl_empty x6).trans (decide_eq_true H6.out)))|(exfalso;have h3:=H3.out;simp_all)
theorem rmay_2f (v k0:Int) (x1:ByteArray) (x2:Int) (ds:List S129) (x4 x5:Int) (x6:ByteArray) (A:Option Addr) (c:Nat) (w:World) (hC:Kd.C k129 w A ds.length ds) (hv:1≤v∧v≤3) (hn:nameB x1=true) (hk:k0=2) (hb: ¬(x2=0∧ds.length=0∧x4=0∧x5=0∧x6.size=0)):
  Calls Tryz.prog 56 #[.int .i64 v,.agg #[.int .i64 k0,.string x1,.int .u64 x2,.slice A ds.length c,.int .u64 x4,.int .u64 x5,.string x6]] w fun e w'=>e= .returned (.bool false)∧Below w.heap.size w w':=by
 have hm:=hC.2.1
 obtain⟨w1,hw1⟩:=eX (w.alloc (.cells #[.int .i64 k0,.string x1,.int .u64 x2,.slice A ds.length c,.int .u64 x4,.int .u64 x5,.string x6] 49))
 have hb1:Below w.heap.size w w1:=by rw[←hw1];exact(Below.refl _ _).alloc (Nat.le_refl _) _
 have HB1:=hQ hb1
 have HW1:=hQ hw1
 have HC:=hQ hC
 have hk1:w1.heap[w.heap.size]? =some (.cells #[.int .i64 k0,.string x1,.int .u64 x2,.slice A ds.length c,.int .u64 x4,.int .u64 x5,.string x6] 49 (0,0)):=by rw[←hw1];exact heap_new _ _
 obtain⟨b1,hbb⟩:=eX (w.heap.size)
 rw[hbb]at hk1
 have HK1:=hQ hk1
 have HBB:=hQ hbb
 clear hk1 hbb
 have d1:decide (v<1)=false:=decide_eq_false (by omega)
 have d2:decide (3<v)=false:=decide_eq_false (by omega)
 subst hk
 clear hC hb1 hw1
 go_enter Tryz.func56,Tryz.ntmps56
 go_wp2_with fail
 rw[HW1.out,HBB.out]
 refine(tephraref08_Name.calls x1 _ _ (rname_is x1)).mono ?_
 rintro e w2 ⟨rfl,hd2⟩
 rw[hn]
 have HB2:=hQ (HB1.out.trans (hd2.below.mono HB1.out.size))
 have hk2:=blk_below HK1.out hd2.below
 have HK2:=hQ hk2
 have q0:=(blk_cell hk2 0).trans rfl
 have q1:=(blk_cell hk2 1).trans rfl
 have q2:=(blk_cell hk2 2).trans rfl
 have q3:=(blk_cell hk2 3).trans rfl
 have q4:=(blk_cell hk2 4).trans rfl
 have q5:=(blk_cell hk2 5).trans rfl
 have q6:=(blk_cell hk2 6).trans rfl
 clear hd2 hk2
 have HBD:=hQ hb
 clear hb
 go_wp2_with fail
 all_goals (go_ret;refine⟨?_,HB2.out⟩;first|rfl|exact congrArg (fun b=>Ending.returned (.bool b)) ((tl_empty x6).trans (decide_eq_false (fun h=>HBD.out ⟨by assumption,by rename_i h3 _ _;rw[h3];rfl,by assumption,by assumption,h⟩)))|exact congrArg (fun b=>Ending.returned (.bool b)) (decide_eq_false (fun h=>HBD.out ⟨by assumption,by rename_i h3 _ _;rw[h3];rfl,by assumption,by assumption,bae_iff.1 h⟩)))
theorem rmay_bad (v k0:Int) (x1:ByteArray) (x2:Int) (ds:List S129) (x4 x5:Int) (x6:ByteArray) (A:Option Addr) (c:Nat) (w:World) (hC:Kd.C k129 w A ds.length ds) (hv:1≤v∧v≤3) (hn:nameB x1=true) (hk:k0≠2) (hb:k0≠1∨16<ds.length∨64<x6.size∨(v=1∧x5≠0)∨(v<3∧x6.size≠0)):
  Calls Tryz.prog 56 #[.int .i64 v,.agg #[.int .i64 k0,.string x1,.int .u64 x2,.slice A ds.length c,.int .u64 x4,.int .u64 x5,.string x6]] w fun e w'=>e= .returned (.bool false)∧Below w.heap.size w w':=by
 have hm:=hC.2.1
 obtain⟨w1,hw1⟩:=eX (w.alloc (.cells #[.int .i64 k0,.string x1,.int .u64 x2,.slice A ds.length c,.int .u64 x4,.int .u64 x5,.string x6] 49))
 have hb1:Below w.heap.size w w1:=by rw[←hw1];exact(Below.refl _ _).alloc (Nat.le_refl _) _
 have HB1:=hQ hb1
 have HW1:=hQ hw1
 have HC:=hQ hC
 have hk1:w1.heap[w.heap.size]? =some (.cells #[.int .i64 k0,.string x1,.int .u64 x2,.slice A ds.length c,.int .u64 x4,.int .u64 x5,.string x6] 49 (0,0)):=by rw[←hw1];exact heap_new _ _
 obtain⟨b1,hbb⟩:=eX (w.heap.size)
 rw[hbb]at hk1
 have HK1:=hQ hk1
 have HBB:=hQ hbb
 clear hk1 hbb
 have d1:decide (v<1)=false:=decide_eq_false (by omega)
 have d2:decide (3<v)=false:=decide_eq_false (by omega)
 have k2:(k0==2)=false:=by simpa using hk
 clear hC hb1 hw1
 go_enter Tryz.func56,Tryz.ntmps56
 go_wp2_with fail
 rw[HW1.out,HBB.out]
 refine(tephraref08_Name.calls x1 _ _ (rname_is x1)).mono ?_
 rintro e w2 ⟨rfl,hd2⟩
 rw[hn]
 have HB2:=hQ (HB1.out.trans (hd2.below.mono HB1.out.size))
 have hk2:=blk_below HK1.out hd2.below
 have HK2:=hQ hk2
 have q0:=(blk_cell hk2 0).trans rfl
 have q1:=(blk_cell hk2 1).trans rfl
 have q2:=(blk_cell hk2 2).trans rfl
 have q3:=(blk_cell hk2 3).trans rfl
 have q4:=(blk_cell hk2 4).trans rfl
 have q5:=(blk_cell hk2 5).trans rfl
 have q6:=(blk_cell hk2 6).trans rfl
 clear hd2 hk2
 have HBD:=hQ hb
 clear hb
 go_wp2_with fail
 all_goals first|(go_ret;exact⟨rfl,HB2.out⟩)|(exfalso;have hbd:=HBD.out;first|omega|(have h:=(Bool.not_eq_false' x6.toList.isEmpty).mp (by assumption);rw[tl_empty,decide_eq_true_eq]at h;omega))
theorem rmay_1v1  (x1:ByteArray) (x2:Int) (ds:List S129) (x4:Int) (x6:ByteArray) (A:Option Addr) (c:Nat) (w:World) (hC:Kd.C k129 w A ds.length ds) (hn:nameB x1=true) (h16:ds.length≤16) (h64:x6.size≤64) (h6:x6.size=0):
  Calls Tryz.prog 56 #[.int .i64 1,.agg #[.int .i64 1,.string x1,.int .u64 x2,.slice A ds.length c,.int .u64 x4,.int .u64 0,.string x6]] w fun e w'=>e= .returned (.bool (depsOk 1 [x1] ds))∧Below w.heap.size w w':=by
 have hm:=hC.2.1
 obtain⟨w1,hw1⟩:=eX (w.alloc (.cells #[.int .i64 1,.string x1,.int .u64 x2,.slice A ds.length c,.int .u64 x4,.int .u64 0,.string x6] 49))
 have hb1:Below w.heap.size w w1:=by rw[←hw1];exact(Below.refl _ _).alloc (Nat.le_refl _) _
 have HB1:=hQ hb1
 have HW1:=hQ hw1
 have HC:=hQ hC
 have hk1:w1.heap[w.heap.size]? =some (.cells #[.int .i64 1,.string x1,.int .u64 x2,.slice A ds.length c,.int .u64 x4,.int .u64 0,.string x6] 49 (0,0)):=by rw[←hw1];exact heap_new _ _
 obtain⟨b1,hbb⟩:=eX (w.heap.size)
 rw[hbb]at hk1
 have HK1:=hQ hk1
 have HBB:=hQ hbb
 clear hk1 hbb
 have d16:decide (16<(ds.length:Int))=false:=decide_eq_false (by omega)
 have d64:decide (64<(x6.size:Int))=false:=decide_eq_false (by omega)
 have t6:x6.toList.isEmpty=true:=by rw[tl_empty];exact decide_eq_true h6
 obtain⟨M,hM⟩:=eX (depsOk 1 [x1] ds)
 rw[hM]
 have HM:=hQ hM
 clear hM
 clear hC hb1 hw1
 go_enter Tryz.func56,Tryz.ntmps56
 go_wp2_with fail
 rw[HW1.out,HBB.out]
 refine(tephraref08_Name.calls x1 _ _ (rname_is x1)).mono ?_
 rintro e w2 ⟨rfl,hd2⟩
 rw[hn]
 have HB2:=hQ (HB1.out.trans (hd2.below.mono HB1.out.size))
 have hk2:=blk_below HK1.out hd2.below
 have HK2:=hQ hk2
 have q0:=(blk_cell hk2 0).trans rfl
 have q1:=(blk_cell hk2 1).trans rfl
 have q2:=(blk_cell hk2 2).trans rfl
 have q3:=(blk_cell hk2 3).trans rfl
 have q4:=(blk_cell hk2 4).trans rfl
 have q5:=(blk_cell hk2 5).trans rfl
 have q6:=(blk_cell hk2 6).trans rfl
 clear hd2 hk2
 go_wp2_with fail
 go_loopw [5] (fun u wr=>∃(i:Nat),i≤ds.length∧u= .int .i64 (i:Int)∧Hid (Below w2.heap.size w2 wr)∧Hid (depsOk 1 (x1::(ds.take i).map (·.f0)) (ds.drop i)=M)) (fun u _=>ds.length-(intOf u).toNat)
 case atStart=>exact⟨0,by omega,rfl,hQ (Below.refl _ _),hQ HM.out⟩
 case round=>
  clear q0 q1 q2 q3 q4 q5 q6
  obtain⟨i,hi,rfl,HB,HD⟩:=hrel
  have hk2:=blk_below HK2.out HB.out
  have s3:=bcl hk2 3 rfl
  have HBW:=hQ (HB2.out.trans (HB.out.mono HB2.out.size))
  by_cases hlt:i<ds.length
  ·have hdl:decide ((i:Int)<(ds.length:Int))=true:=decide_eq_true (by omega)
   obtain⟨ad,hA,g0,g1,g2⟩:=at_T129 (Kd.C_below HC.out HBW.out) (i:Int) (by omega) (by omega)
   subst hA
   rw[rd_dep ds i hlt,Int.toNat_natCast]at g0 g1 g2
   have hd:=HD.out
   rw[List.drop_eq_getElem_cons hlt]at hd
   have hnx:=names_take hlt (l:=ds)
   generalize ds[i]=d at g0 g1 g2 hd hnx
   obtain⟨d0,dh,do_⟩:=d
   dsimp only at g0 g1 g2 hnx
   rw[depsOk]at hd
   dsimp only at hd
   have HD2:=hQ hd
   have HNX:=hQ hnx
   clear hd hnx hk2 HD
   obtain⟨wa,hwa⟩:=eX (wr.alloc (.cells #[.string d0,.int .u64 dh,.bool do_] 129))
   have hba:Below wr.heap.size wr wa:=by rw[←hwa];exact(Below.refl _ _).alloc (Nat.le_refl _) _
   have hka:wa.heap[wr.heap.size]? =some (.cells #[.string d0,.int .u64 dh,.bool do_] 129 (0,0)):=by rw[←hwa];exact heap_new _ _
   obtain⟨b6,hb6⟩:=eX (wr.heap.size)
   rw[hb6]at hka
   have HKA:=hQ hka
   have HBA:=hQ hba
   have HWA:=hQ hwa
   have HB6:=hQ hb6
   clear hba hka hwa hb6
   go_wp2_with fail
   clear g0 g1 g2 s3
   rw[HWA.out,HB6.out]
   refine(tephraref08_Name.calls d0 _ _ (rname_is d0)).mono ?_
   rintro e wb ⟨rfl,hdb⟩
   have hkb:=blk_below HKA.out hdb.below
   have hbb3:Below w2.heap.size w2 wb:=HB.out.trans ((HBA.out.trans (hdb.below.mono HBA.out.size)).mono HB.out.size)
   have HB3:=hQ hbb3
   have HBW3:=hQ (HB2.out.trans (hbb3.mono HB2.out.size))
   have hk3:=blk_below HK2.out hbb3
   have HK3:=hQ hk3
   have HKB:=hQ hkb
   have y0:=(blk_cell hkb 0).trans rfl
   have y2:=(blk_cell hkb 2).trans rfl
   have z1:=bcl hk3 1 rfl
   clear hdb hkb hbb3 hk3
   cases hnb:nameB d0 with
   |false=>
    have HZ:=hQ (show false=M by have h:=HD2.out;rw[hnb]at h;simpa using h)
    go_wp2_with fail
    go_ret
    exact⟨by rw[←HZ.out];rfl,HBW3.out⟩
   | true=>
    have hd2:=HD2.out
    rw[hnb]at hd2
    by_cases hx:d0=x1
    ·have HZ:=hQ (show false=M by rw[←hd2,isIn_iff.2 (by rw[hx];simp)];simp)
     subst hx
     clear hd2
     go_wp2_with fail
     go_ret
     exact⟨by rw[←HZ.out];rfl,HBW3.out⟩
    ·have hxe:=xeq_no hx
     have hin:isIn (x1::(ds.take i).map (·.f0)) d0=isIn ((ds.take i).map (·.f0)) d0:=by
      rw[Bool.eq_iff_iff,isIn_iff,isIn_iff,List.mem_cons]
      exact⟨fun h=>h.elim (fun h=>absurd h hx) id,.inr⟩
     rw[hin]at hd2
     obtain⟨hx1,hx2,hx3⟩:=hxe
     have HD3:=hQ hd2
     have HX:=hQ hx
     clear hd2 hin hx
     cases do_ with
     |true=>
      have HZ:=hQ (show false=M by rw[←HD3.out];simp)
      go_wp2_with fail
      go_ret
      exact⟨by rw[←HZ.out];rfl,HBW3.out⟩
     | false=>
      have HD4:=hQ (show(!isIn ((ds.take i).map (·.f0)) d0&&depsOk 1 (x1::(ds.take i).map (·.f0)++[d0]) (ds.drop (i+1)))=M by rw[←HD3.out];simp)
      go_wp2_with fail
      clear y0 y2 z1 hx1 hx2 hx3
      go_loopw [7] (fun u wq=>∃(j:Nat),j≤i∧u= .int .i64 (j:Int)∧Hid (Below wb.heap.size wb wq)∧Hid (d0 ∉ (ds.take j).map (·.f0))) (fun u _=>i-(intOf u).toNat)
      case atStart=>exact⟨0,by omega,rfl,hQ (Below.refl _ _),hQ (by simp)⟩
      case round=>
       obtain⟨j,hj,rfl,HQ,HN⟩:=hrel
       by_cases hji:j<i
       ·have hjl:decide ((j:Int)<(i:Int))=true:=decide_eq_true (by omega)
        obtain⟨ae,hA2,e0,_,_⟩:=at_T129 (Kd.C_below HC.out (HBW3.out.trans (HQ.out.mono HBW3.out.size))) (j:Int) (by omega) (by omega)
        have hA3:=Option.some.inj hA2
        subst hA3
        rw[rd_dep ds j (by omega),Int.toNat_natCast]at e0
        have hnj:=names_take (show j<ds.length by omega) (l:=ds)
        generalize ds[j]'(by omega)=dj at e0 hnj
        obtain⟨f0,fh,fo⟩:=dj
        dsimp only at e0 hnj
        have HNJ:=hQ hnj
        have hkq1:=blk_below HK3.out HQ.out
        have hkq2:=blk_below HKB.out HQ.out
        have y3:=bcl hkq1 3 rfl
        have y0:=bcl hkq2 0 rfl
        have hjn:j<ds.length:=by omega
        clear hnj hA2 hkq1 hkq2
        by_cases hf:f0=d0
        ·subst hf
         have HZ:=hQ (met_yes HNJ.out (show j+1≤i by omega) HD4.out)
         go_wp2_with fail
         go_quiet (fail)
         go_wp2_with fail
         go_ret
         exact⟨by rw[←HZ.out];rfl,pw_below_drewN (HBW3.out.trans (HQ.out.mono HBW3.out.size)) _⟩
        ·obtain⟨r1,r2,r3⟩:=xeq_no hf
         have HN2:=hQ (met_no HNJ.out HN.out hf)
         go_wp2_with fail
         go_quiet (fail)
         go_wp2_with fail
         go_roundw
         case rel=>exact⟨j+1,by omega,by go_num,hQ (pw_below_drewN HQ.out _),HN2⟩
         case measure=>simp[intOf];omega
       ·obtain rfl:j=i:=by omega
        have HD5:=hQ (show depsOk 1 (x1::(ds.take (j+1)).map (·.f0)) (ds.drop (j+1))=M by
         have h:=HD4.out
         rw[isIn_ne.2 HN.out]at h
         rw[HNX.out]
         simpa using h)
        have HB5:=hQ (HB3.out.trans (HQ.out.mono HB3.out.size))
        go_wp2_with fail
        go_roundw
        case rel=>exact⟨j+1,by omega,by go_num,HB5,HD5⟩
        case measure=>simp[intOf];omega
  ·obtain rfl:i=ds.length:=by omega
   have HZ:=hQ (show true=M by have h:=HD.out;rw[List.drop_length,depsOk]at h;exact h)
   clear hk2
   go_wp2_with fail
   go_ret
   exact⟨by rw[←HZ.out];rfl,HBW.out⟩
theorem rmay_1v2  (x1:ByteArray) (x2:Int) (ds:List S129) (x4 x5:Int) (x6:ByteArray) (A:Option Addr) (c:Nat) (w:World) (hC:Kd.C k129 w A ds.length ds) (hn:nameB x1=true) (h16:ds.length≤16) (h64:x6.size≤64) (h6:x6.size=0):
  Calls Tryz.prog 56 #[.int .i64 2,.agg #[.int .i64 1,.string x1,.int .u64 x2,.slice A ds.length c,.int .u64 x4,.int .u64 x5,.string x6]] w fun e w'=>e= .returned (.bool (depsOk 2 [x1] ds))∧Below w.heap.size w w':=by
 have hm:=hC.2.1
 obtain⟨w1,hw1⟩:=eX (w.alloc (.cells #[.int .i64 1,.string x1,.int .u64 x2,.slice A ds.length c,.int .u64 x4,.int .u64 x5,.string x6] 49))
 have hb1:Below w.heap.size w w1:=by rw[←hw1];exact(Below.refl _ _).alloc (Nat.le_refl _) _
 have HB1:=hQ hb1
 have HW1:=hQ hw1
 have HC:=hQ hC
 have hk1:w1.heap[w.heap.size]? =some (.cells #[.int .i64 1,.string x1,.int .u64 x2,.slice A ds.length c,.int .u64 x4,.int .u64 x5,.string x6] 49 (0,0)):=by rw[←hw1];exact heap_new _ _
 obtain⟨b1,hbb⟩:=eX (w.heap.size)
 rw[hbb]at hk1
 have HK1:=hQ hk1
 have HBB:=hQ hbb
 clear hk1 hbb
 have d16:decide (16<(ds.length:Int))=false:=decide_eq_false (by omega)
 have d64:decide (64<(x6.size:Int))=false:=decide_eq_false (by omega)
 have t6:x6.toList.isEmpty=true:=by rw[tl_empty];exact decide_eq_true h6
 obtain⟨M,hM⟩:=eX (depsOk 2 [x1] ds)
 rw[hM]
 have HM:=hQ hM
 clear hM
 clear hC hb1 hw1
 go_enter Tryz.func56,Tryz.ntmps56
 go_wp2_with fail
 rw[HW1.out,HBB.out]
 refine(tephraref08_Name.calls x1 _ _ (rname_is x1)).mono ?_
 rintro e w2 ⟨rfl,hd2⟩
 rw[hn]
 have HB2:=hQ (HB1.out.trans (hd2.below.mono HB1.out.size))
 have hk2:=blk_below HK1.out hd2.below
 have HK2:=hQ hk2
 have q0:=(blk_cell hk2 0).trans rfl
 have q1:=(blk_cell hk2 1).trans rfl
 have q2:=(blk_cell hk2 2).trans rfl
 have q3:=(blk_cell hk2 3).trans rfl
 have q4:=(blk_cell hk2 4).trans rfl
 have q5:=(blk_cell hk2 5).trans rfl
 have q6:=(blk_cell hk2 6).trans rfl
 clear hd2 hk2
 go_wp2_with fail
 go_loopw [5] (fun u wr=>∃(i:Nat),i≤ds.length∧u= .int .i64 (i:Int)∧Hid (Below w2.heap.size w2 wr)∧Hid (depsOk 2 (x1::(ds.take i).map (·.f0)) (ds.drop i)=M)) (fun u _=>ds.length-(intOf u).toNat)
 case atStart=>exact⟨0,by omega,rfl,hQ (Below.refl _ _),hQ HM.out⟩
 case round=>
  clear q0 q1 q2 q3 q4 q5 q6
  obtain⟨i,hi,rfl,HB,HD⟩:=hrel
  have hk2:=blk_below HK2.out HB.out
  have s3:=bcl hk2 3 rfl
  have HBW:=hQ (HB2.out.trans (HB.out.mono HB2.out.size))
  by_cases hlt:i<ds.length
  ·have hdl:decide ((i:Int)<(ds.length:Int))=true:=decide_eq_true (by omega)
   obtain⟨ad,hA,g0,g1,g2⟩:=at_T129 (Kd.C_below HC.out HBW.out) (i:Int) (by omega) (by omega)
   subst hA
   rw[rd_dep ds i hlt,Int.toNat_natCast]at g0 g1 g2
   have hd:=HD.out
   rw[List.drop_eq_getElem_cons hlt]at hd
   have hnx:=names_take hlt (l:=ds)
   generalize ds[i]=d at g0 g1 g2 hd hnx
   obtain⟨d0,dh,do_⟩:=d
   dsimp only at g0 g1 g2 hnx
   rw[depsOk]at hd
   dsimp only at hd
   have HD2:=hQ hd
   have HNX:=hQ hnx
   clear hd hnx hk2 HD
   obtain⟨wa,hwa⟩:=eX (wr.alloc (.cells #[.string d0,.int .u64 dh,.bool do_] 129))
   have hba:Below wr.heap.size wr wa:=by rw[←hwa];exact(Below.refl _ _).alloc (Nat.le_refl _) _
   have hka:wa.heap[wr.heap.size]? =some (.cells #[.string d0,.int .u64 dh,.bool do_] 129 (0,0)):=by rw[←hwa];exact heap_new _ _
   obtain⟨b6,hb6⟩:=eX (wr.heap.size)
   rw[hb6]at hka
   have HKA:=hQ hka
   have HBA:=hQ hba
   have HWA:=hQ hwa
   have HB6:=hQ hb6
   clear hba hka hwa hb6
   go_wp2_with fail
   clear g0 g1 g2 s3
   rw[HWA.out,HB6.out]
   refine(tephraref08_Name.calls d0 _ _ (rname_is d0)).mono ?_
   rintro e wb ⟨rfl,hdb⟩
   have hkb:=blk_below HKA.out hdb.below
   have hbb3:Below w2.heap.size w2 wb:=HB.out.trans ((HBA.out.trans (hdb.below.mono HBA.out.size)).mono HB.out.size)
   have HB3:=hQ hbb3
   have HBW3:=hQ (HB2.out.trans (hbb3.mono HB2.out.size))
   have hk3:=blk_below HK2.out hbb3
   have HK3:=hQ hk3
   have HKB:=hQ hkb
   have y0:=(blk_cell hkb 0).trans rfl
   have y2:=(blk_cell hkb 2).trans rfl
   have z1:=bcl hk3 1 rfl
   clear hdb hkb hbb3 hk3
   cases hnb:nameB d0 with
   |false=>
    have HZ:=hQ (show false=M by have h:=HD2.out;rw[hnb]at h;simpa using h)
    go_wp2_with fail
    go_ret
    exact⟨by rw[←HZ.out];rfl,HBW3.out⟩
   | true=>
    have hd2:=HD2.out
    rw[hnb]at hd2
    by_cases hx:d0=x1
    ·have HZ:=hQ (show false=M by rw[←hd2,isIn_iff.2 (by rw[hx];simp)];simp)
     subst hx
     clear hd2
     go_wp2_with fail
     go_ret
     exact⟨by rw[←HZ.out];rfl,HBW3.out⟩
    ·have hxe:=xeq_no hx
     have hin:isIn (x1::(ds.take i).map (·.f0)) d0=isIn ((ds.take i).map (·.f0)) d0:=by
      rw[Bool.eq_iff_iff,isIn_iff,isIn_iff,List.mem_cons]
      exact⟨fun h=>h.elim (fun h=>absurd h hx) id,.inr⟩
     rw[hin]at hd2
     obtain⟨hx1,hx2,hx3⟩:=hxe
     have HD3:=hQ hd2
     have HX:=hQ hx
     clear hd2 hin hx
     cases do_ with
     |true=>
      have HZ:=hQ (show false=M by rw[←HD3.out];simp)
      go_wp2_with fail
      go_ret
      exact⟨by rw[←HZ.out];rfl,HBW3.out⟩
     | false=>
      have HD4:=hQ (show(!isIn ((ds.take i).map (·.f0)) d0&&depsOk 2 (x1::(ds.take i).map (·.f0)++[d0]) (ds.drop (i+1)))=M by rw[←HD3.out];simp)
      go_wp2_with fail
      clear y0 y2 z1 hx1 hx2 hx3
      go_loopw [7] (fun u wq=>∃(j:Nat),j≤i∧u= .int .i64 (j:Int)∧Hid (Below wb.heap.size wb wq)∧Hid (d0 ∉ (ds.take j).map (·.f0))) (fun u _=>i-(intOf u).toNat)
      case atStart=>exact⟨0,by omega,rfl,hQ (Below.refl _ _),hQ (by simp)⟩
      case round=>
       obtain⟨j,hj,rfl,HQ,HN⟩:=hrel
       by_cases hji:j<i
       ·have hjl:decide ((j:Int)<(i:Int))=true:=decide_eq_true (by omega)
        obtain⟨ae,hA2,e0,_,_⟩:=at_T129 (Kd.C_below HC.out (HBW3.out.trans (HQ.out.mono HBW3.out.size))) (j:Int) (by omega) (by omega)
        have hA3:=Option.some.inj hA2
        subst hA3
        rw[rd_dep ds j (by omega),Int.toNat_natCast]at e0
        have hnj:=names_take (show j<ds.length by omega) (l:=ds)
        generalize ds[j]'(by omega)=dj at e0 hnj
        obtain⟨f0,fh,fo⟩:=dj
        dsimp only at e0 hnj
        have HNJ:=hQ hnj
        have hkq1:=blk_below HK3.out HQ.out
        have hkq2:=blk_below HKB.out HQ.out
        have y3:=bcl hkq1 3 rfl
        have y0:=bcl hkq2 0 rfl
        have hjn:j<ds.length:=by omega
        clear hnj hA2 hkq1 hkq2
        by_cases hf:f0=d0
        ·subst hf
         have HZ:=hQ (met_yes HNJ.out (show j+1≤i by omega) HD4.out)
         go_wp2_with fail
         go_quiet (fail)
         go_wp2_with fail
         go_ret
         exact⟨by rw[←HZ.out];rfl,pw_below_drewN (HBW3.out.trans (HQ.out.mono HBW3.out.size)) _⟩
        ·obtain⟨r1,r2,r3⟩:=xeq_no hf
         have HN2:=hQ (met_no HNJ.out HN.out hf)
         go_wp2_with fail
         go_quiet (fail)
         go_wp2_with fail
         go_roundw
         case rel=>exact⟨j+1,by omega,by go_num,hQ (pw_below_drewN HQ.out _),HN2⟩
         case measure=>simp[intOf];omega
       ·obtain rfl:j=i:=by omega
        have HD5:=hQ (show depsOk 2 (x1::(ds.take (j+1)).map (·.f0)) (ds.drop (j+1))=M by
         have h:=HD4.out
         rw[isIn_ne.2 HN.out]at h
         rw[HNX.out]
         simpa using h)
        have HB5:=hQ (HB3.out.trans (HQ.out.mono HB3.out.size))
        go_wp2_with fail
        go_roundw
        case rel=>exact⟨j+1,by omega,by go_num,HB5,HD5⟩
        case measure=>simp[intOf];omega
  ·obtain rfl:i=ds.length:=by omega
   have HZ:=hQ (show true=M by have h:=HD.out;rw[List.drop_length,depsOk]at h;exact h)
   clear hk2
   go_wp2_with fail
   go_ret
   exact⟨by rw[←HZ.out];rfl,HBW.out⟩
theorem rmay_1v3  (x1:ByteArray) (x2:Int) (ds:List S129) (x4 x5:Int) (x6:ByteArray) (A:Option Addr) (c:Nat) (w:World) (hC:Kd.C k129 w A ds.length ds) (hn:nameB x1=true) (h16:ds.length≤16) (h64:x6.size≤64):
  Calls Tryz.prog 56 #[.int .i64 3,.agg #[.int .i64 1,.string x1,.int .u64 x2,.slice A ds.length c,.int .u64 x4,.int .u64 x5,.string x6]] w fun e w'=>e= .returned (.bool (depsOk 3 [x1] ds))∧Below w.heap.size w w':=by
 have hm:=hC.2.1
 obtain⟨w1,hw1⟩:=eX (w.alloc (.cells #[.int .i64 1,.string x1,.int .u64 x2,.slice A ds.length c,.int .u64 x4,.int .u64 x5,.string x6] 49))
 have hb1:Below w.heap.size w w1:=by rw[←hw1];exact(Below.refl _ _).alloc (Nat.le_refl _) _
 have HB1:=hQ hb1
 have HW1:=hQ hw1
 have HC:=hQ hC
 have hk1:w1.heap[w.heap.size]? =some (.cells #[.int .i64 1,.string x1,.int .u64 x2,.slice A ds.length c,.int .u64 x4,.int .u64 x5,.string x6] 49 (0,0)):=by rw[←hw1];exact heap_new _ _
 obtain⟨b1,hbb⟩:=eX (w.heap.size)
 rw[hbb]at hk1
 have HK1:=hQ hk1
 have HBB:=hQ hbb
 clear hk1 hbb
 have d16:decide (16<(ds.length:Int))=false:=decide_eq_false (by omega)
 have d64:decide (64<(x6.size:Int))=false:=decide_eq_false (by omega)
 obtain⟨M,hM⟩:=eX (depsOk 3 [x1] ds)
 rw[hM]
 have HM:=hQ hM
 clear hM
 clear hC hb1 hw1
 go_enter Tryz.func56,Tryz.ntmps56
 go_wp2_with fail
 rw[HW1.out,HBB.out]
 refine(tephraref08_Name.calls x1 _ _ (rname_is x1)).mono ?_
 rintro e w2 ⟨rfl,hd2⟩
 rw[hn]
 have HB2:=hQ (HB1.out.trans (hd2.below.mono HB1.out.size))
 have hk2:=blk_below HK1.out hd2.below
 have HK2:=hQ hk2
 have q0:=(blk_cell hk2 0).trans rfl
 have q1:=(blk_cell hk2 1).trans rfl
 have q2:=(blk_cell hk2 2).trans rfl
 have q3:=(blk_cell hk2 3).trans rfl
 have q4:=(blk_cell hk2 4).trans rfl
 have q5:=(blk_cell hk2 5).trans rfl
 have q6:=(blk_cell hk2 6).trans rfl
 clear hd2 hk2
 go_wp2_with fail
 go_loopw [5] (fun u wr=>∃(i:Nat),i≤ds.length∧u= .int .i64 (i:Int)∧Hid (Below w2.heap.size w2 wr)∧Hid (depsOk 3 (x1::(ds.take i).map (·.f0)) (ds.drop i)=M)) (fun u _=>ds.length-(intOf u).toNat)
 case atStart=>exact⟨0,by omega,rfl,hQ (Below.refl _ _),hQ HM.out⟩
 case round=>
  clear q0 q1 q2 q3 q4 q5 q6
  obtain⟨i,hi,rfl,HB,HD⟩:=hrel
  have hk2:=blk_below HK2.out HB.out
  have s3:=bcl hk2 3 rfl
  have HBW:=hQ (HB2.out.trans (HB.out.mono HB2.out.size))
  by_cases hlt:i<ds.length
  ·have hdl:decide ((i:Int)<(ds.length:Int))=true:=decide_eq_true (by omega)
   obtain⟨ad,hA,g0,g1,g2⟩:=at_T129 (Kd.C_below HC.out HBW.out) (i:Int) (by omega) (by omega)
   subst hA
   rw[rd_dep ds i hlt,Int.toNat_natCast]at g0 g1 g2
   have hd:=HD.out
   rw[List.drop_eq_getElem_cons hlt]at hd
   have hnx:=names_take hlt (l:=ds)
   generalize ds[i]=d at g0 g1 g2 hd hnx
   obtain⟨d0,dh,do_⟩:=d
   dsimp only at g0 g1 g2 hnx
   rw[depsOk]at hd
   dsimp only at hd
   have HD2:=hQ hd
   have HNX:=hQ hnx
   clear hd hnx hk2 HD
   obtain⟨wa,hwa⟩:=eX (wr.alloc (.cells #[.string d0,.int .u64 dh,.bool do_] 129))
   have hba:Below wr.heap.size wr wa:=by rw[←hwa];exact(Below.refl _ _).alloc (Nat.le_refl _) _
   have hka:wa.heap[wr.heap.size]? =some (.cells #[.string d0,.int .u64 dh,.bool do_] 129 (0,0)):=by rw[←hwa];exact heap_new _ _
   obtain⟨b6,hb6⟩:=eX (wr.heap.size)
   rw[hb6]at hka
   have HKA:=hQ hka
   have HBA:=hQ hba
   have HWA:=hQ hwa
   have HB6:=hQ hb6
   clear hba hka hwa hb6
   go_wp2_with fail
   clear g0 g1 g2 s3
   rw[HWA.out,HB6.out]
   refine(tephraref08_Name.calls d0 _ _ (rname_is d0)).mono ?_
   rintro e wb ⟨rfl,hdb⟩
   have hkb:=blk_below HKA.out hdb.below
   have hbb3:Below w2.heap.size w2 wb:=HB.out.trans ((HBA.out.trans (hdb.below.mono HBA.out.size)).mono HB.out.size)
   have HB3:=hQ hbb3
   have HBW3:=hQ (HB2.out.trans (hbb3.mono HB2.out.size))
   have hk3:=blk_below HK2.out hbb3
   have HK3:=hQ hk3
   have HKB:=hQ hkb
   have y0:=(blk_cell hkb 0).trans rfl
   have y2:=(blk_cell hkb 2).trans rfl
   have z1:=bcl hk3 1 rfl
   clear hdb hkb hbb3 hk3
   cases hnb:nameB d0 with
   |false=>
    have HZ:=hQ (show false=M by have h:=HD2.out;rw[hnb]at h;simpa using h)
    go_wp2_with fail
    go_ret
    exact⟨by rw[←HZ.out];rfl,HBW3.out⟩
   | true=>
    have hd2:=HD2.out
    rw[hnb]at hd2
    by_cases hx:d0=x1
    ·have HZ:=hQ (show false=M by rw[←hd2,isIn_iff.2 (by rw[hx];simp)];simp)
     subst hx
     clear hd2
     go_wp2_with fail
     go_ret
     exact⟨by rw[←HZ.out];rfl,HBW3.out⟩
    ·have hxe:=xeq_no hx
     have hin:isIn (x1::(ds.take i).map (·.f0)) d0=isIn ((ds.take i).map (·.f0)) d0:=by
      rw[Bool.eq_iff_iff,isIn_iff,isIn_iff,List.mem_cons]
      exact⟨fun h=>h.elim (fun h=>absurd h hx) id,.inr⟩
     rw[hin]at hd2
     obtain⟨hx1,hx2,hx3⟩:=hxe
     have HD3:=hQ hd2
     have HX:=hQ hx
     clear hd2 hin hx
     have HD4:=hQ (show(!isIn ((ds.take i).map (·.f0)) d0&&depsOk 3 (x1::(ds.take i).map (·.f0)++[d0]) (ds.drop (i+1)))=M by rw[←HD3.out];simp)
     have HOR:=hQ (show do_=do_ from rfl)
     cases do_ with
     | true=>
      go_wp2_with fail
      clear y0 y2 z1 hx1 hx2 hx3
      go_loopw [7] (fun u wq=>∃(j:Nat),j≤i∧u= .int .i64 (j:Int)∧Hid (Below wb.heap.size wb wq)∧Hid (d0 ∉ (ds.take j).map (·.f0))) (fun u _=>i-(intOf u).toNat)
      case atStart=>exact⟨0,by omega,rfl,hQ (Below.refl _ _),hQ (by simp)⟩
      case round=>
       obtain⟨j,hj,rfl,HQ,HN⟩:=hrel
       by_cases hji:j<i
       ·have hjl:decide ((j:Int)<(i:Int))=true:=decide_eq_true (by omega)
        obtain⟨ae,hA2,e0,_,_⟩:=at_T129 (Kd.C_below HC.out (HBW3.out.trans (HQ.out.mono HBW3.out.size))) (j:Int) (by omega) (by omega)
        have hA3:=Option.some.inj hA2
        subst hA3
        rw[rd_dep ds j (by omega),Int.toNat_natCast]at e0
        have hnj:=names_take (show j<ds.length by omega) (l:=ds)
        generalize ds[j]'(by omega)=dj at e0 hnj
        obtain⟨f0,fh,fo⟩:=dj
        dsimp only at e0 hnj
        have HNJ:=hQ hnj
        have hkq1:=blk_below HK3.out HQ.out
        have hkq2:=blk_below HKB.out HQ.out
        have y3:=bcl hkq1 3 rfl
        have y0:=bcl hkq2 0 rfl
        have hjn:j<ds.length:=by omega
        clear hnj hA2 hkq1 hkq2
        by_cases hf:f0=d0
        ·subst hf
         have HZ:=hQ (met_yes HNJ.out (show j+1≤i by omega) HD4.out)
         go_wp2_with fail
         go_quiet (fail)
         go_wp2_with fail
         go_ret
         exact⟨by rw[←HZ.out];rfl,pw_below_drewN (HBW3.out.trans (HQ.out.mono HBW3.out.size)) _⟩
        ·obtain⟨r1,r2,r3⟩:=xeq_no hf
         have HN2:=hQ (met_no HNJ.out HN.out hf)
         go_wp2_with fail
         go_quiet (fail)
         go_wp2_with fail
         go_roundw
         case rel=>exact⟨j+1,by omega,by go_num,hQ (pw_below_drewN HQ.out _),HN2⟩
         case measure=>simp[intOf];omega
       ·obtain rfl:j=i:=by omega
        have HD5:=hQ (show depsOk 3 (x1::(ds.take (j+1)).map (·.f0)) (ds.drop (j+1))=M by
         have h:=HD4.out
         rw[isIn_ne.2 HN.out]at h
         rw[HNX.out]
         simpa using h)
        have HB5:=hQ (HB3.out.trans (HQ.out.mono HB3.out.size))
        go_wp2_with fail
        go_roundw
        case rel=>exact⟨j+1,by omega,by go_num,HB5,HD5⟩
        case measure=>simp[intOf];omega
     | false=>
      go_wp2_with fail
      clear y0 y2 z1 hx1 hx2 hx3
      go_loopw [7] (fun u wq=>∃(j:Nat),j≤i∧u= .int .i64 (j:Int)∧Hid (Below wb.heap.size wb wq)∧Hid (d0 ∉ (ds.take j).map (·.f0))) (fun u _=>i-(intOf u).toNat)
      case atStart=>exact⟨0,by omega,rfl,hQ (Below.refl _ _),hQ (by simp)⟩
      case round=>
       obtain⟨j,hj,rfl,HQ,HN⟩:=hrel
       by_cases hji:j<i
       ·have hjl:decide ((j:Int)<(i:Int))=true:=decide_eq_true (by omega)
        obtain⟨ae,hA2,e0,_,_⟩:=at_T129 (Kd.C_below HC.out (HBW3.out.trans (HQ.out.mono HBW3.out.size))) (j:Int) (by omega) (by omega)
        have hA3:=Option.some.inj hA2
        subst hA3
        rw[rd_dep ds j (by omega),Int.toNat_natCast]at e0
        have hnj:=names_take (show j<ds.length by omega) (l:=ds)
        generalize ds[j]'(by omega)=dj at e0 hnj
        obtain⟨f0,fh,fo⟩:=dj
        dsimp only at e0 hnj
        have HNJ:=hQ hnj
        have hkq1:=blk_below HK3.out HQ.out
        have hkq2:=blk_below HKB.out HQ.out
        have y3:=bcl hkq1 3 rfl
        have y0:=bcl hkq2 0 rfl
        have hjn:j<ds.length:=by omega
        clear hnj hA2 hkq1 hkq2
        by_cases hf:f0=d0
        ·subst hf
         have HZ:=hQ (met_yes HNJ.out (show j+1≤i by omega) HD4.out)
         go_wp2_with fail
         go_quiet (fail)
         go_wp2_with fail
         go_ret
         exact⟨by rw[←HZ.out];rfl,pw_below_drewN (HBW3.out.trans (HQ.out.mono HBW3.out.size)) _⟩
        ·obtain⟨r1,r2,r3⟩:=xeq_no hf
         have HN2:=hQ (met_no HNJ.out HN.out hf)
         go_wp2_with fail
         go_quiet (fail)
         go_wp2_with fail
         go_roundw
         case rel=>exact⟨j+1,by omega,by go_num,hQ (pw_below_drewN HQ.out _),HN2⟩
         case measure=>simp[intOf];omega
       ·obtain rfl:j=i:=by omega
        have HD5:=hQ (show depsOk 3 (x1::(ds.take (j+1)).map (·.f0)) (ds.drop (j+1))=M by
         have h:=HD4.out
         rw[isIn_ne.2 HN.out]at h
         rw[HNX.out]
         simpa using h)
        have HB5:=hQ (HB3.out.trans (HQ.out.mono HB3.out.size))
        go_wp2_with fail
        go_roundw
        case rel=>exact⟨j+1,by omega,by go_num,HB5,HD5⟩
        case measure=>simp[intOf];omega
  ·obtain rfl:i=ds.length:=by omega
   have HZ:=hQ (show true=M by have h:=HD.out;rw[List.drop_length,depsOk]at h;exact h)
   clear hk2
   go_wp2_with fail
   go_ret
   exact⟨by rw[←HZ.out];rfl,HBW.out⟩
theorem rmay_any (v k0:Int) (x1:ByteArray) (x2:Int) (ds:List S129) (x4 x5:Int) (x6:ByteArray) (A:Option Addr) (c:Nat) (w:World) (hC:Kd.C k129 w A ds.length ds):
  Calls Tryz.prog 56 #[.int .i64 v,.agg #[.int .i64 k0,.string x1,.int .u64 x2,.slice A ds.length c,.int .u64 x4,.int .u64 x5,.string x6]] w fun e w'=>e= .returned (.bool (mayB v k0 x1 x2 ds x4 x5 x6))∧Below w.heap.size w w':=by
 by_cases hv:1≤v∧v≤3
 ·by_cases hn:nameB x1=true
  ·by_cases hk:k0=2
   ·have e:mayB v k0 x1 x2 ds x4 x5 x6=decide (x2=0∧ds.length=0∧x4=0∧x5=0∧x6.size=0):=by
     unfold mayB
     rw[hn,decide_eq_true hv,if_neg (by omega),decide_eq_true hk,Bool.eq_iff_iff]
     simp only[Bool.and_eq_true,decide_eq_true_eq,true_and,and_assoc]
    rw[e]
    by_cases hb:x2=0∧ds.length=0∧x4=0∧x5=0∧x6.size=0
    ·rw[decide_eq_true hb];exact rmay_2t v k0 x1 x2 ds x4 x5 x6 A c w hC hv hn hk hb
    ·rw[decide_eq_false hb];exact rmay_2f v k0 x1 x2 ds x4 x5 x6 A c w hC hv hn hk hb
   ·by_cases hb:k0≠1∨16<ds.length∨64<x6.size∨(v=1∧x5≠0)∨(v<3∧x6.size≠0)
    ·have e:mayB v k0 x1 x2 ds x4 x5 x6=false:=by
      rw[Bool.eq_false_iff]
      intro h
      have M:=may_facts h
      have h1:=M.k
      have h2:=M.n
      have h3:=M.tag
      have h4:=M.w
      omega
     rw[e]
     exact rmay_bad v k0 x1 x2 ds x4 x5 x6 A c w hC hv hn hk hb
    ·have e:mayB v k0 x1 x2 ds x4 x5 x6=depsOk v [x1] ds:=by
      have h1:k0=1:=by omega
      unfold mayB depsB
      rw[hn,decide_eq_true hv,if_pos h1,decide_eq_true (show x6.size≤64 by omega),decide_eq_true (show(ds.length:Int)≤16 by omega)]
      have h2:(decide (v<2)&&decide (x5≠0)||decide (v<3)&&decide (x6.size≠0))=false:=by
       rw[Bool.eq_false_iff]
       intro h
       simp only[Bool.or_eq_true,Bool.and_eq_true,decide_eq_true_eq]at h
       omega
      rw[h2]
      simp
     rw[e]
     have hk1:k0=1:=by omega
     have hv3:v=1∨v=2∨v=3:=by omega
     subst hk1
     rcases hv3 with rfl|rfl|rfl
     ·have h5:x5=0:=by omega
      subst h5
      exact rmay_1v1 x1 x2 ds x4 x6 A c w hC hn (by omega) (by omega) (by omega)
     ·exact rmay_1v2 x1 x2 ds x4 x5 x6 A c w hC hn (by omega) (by omega) (by omega)
     ·exact rmay_1v3 x1 x2 ds x4 x5 x6 A c w hC hn (by omega) (by omega)
  ·have hn':=Bool.eq_false_iff.2 hn
   have e:mayB v k0 x1 x2 ds x4 x5 x6=false:=by unfold mayB;rw[hn'];simp
   rw[e]
   exact rmay_n v k0 x1 x2 ds x4 x5 x6 A c w hC hv hn'
 ·have e:mayB v k0 x1 x2 ds x4 x5 x6=false:=by unfold mayB;rw[decide_eq_false hv];simp
  rw[e]
  exact rmay_v v k0 x1 x2 ds x4 x5 x6 A c w hC hv
end Go.Proofs.YtfflenbfapgilaaGreat
