/- Texts laid as one by shake.py, cut to what the claim needs: SchV, WkE, SchN, RowR, MayH, SchM, WkF, WkG, GfP, WkH, WkI, SamH. (Names that begin with W and the print's groups (G..x, G..z): laid by the kit's print, cut.) -/
import Derived.Test.YtmeocdkiecknkaaZGu
import Derived.Test.YtmeocdkiecknkaaZGx
import Derived.Test.YtmeocdkiecknkaaZGf
import Derived.Test.YtmeocdkiecknkaaZGe
import Derived.Deep.QuietTactic
import Derived.BigQuiet
set_option linter.unusedVariables false
set_option linter.unusedSimpArgs false
namespace Go.Proofs.Ytmeocdkiecknkaa
open Go.RowKit Go.Proofs.YtmeocdkiecknkaaW.PrintWords Go.Proofs.Ytmeocdkiecknkaa.GRR
theorem wf_u64 {n:Int} (h:(Lit.int .u64 n).wf=true):0≤n∧n<18446744073709551616:=by
 simp[Lit.wf,IntKind.min,IntKind.max,IntKind.signed,IntKind.bits]at h;omega
abbrev putR (v:Int) (T:List ByteArray) (r:Rec9):=putF v T r.1 r.2.1 r.2.2.1 r.2.2.2.1 r.2.2.2.2.1 r.2.2.2.2.2.1 r.2.2.2.2.2.2
abbrev mayR (v:Int) (r:Rec9):=mayB v r.1 r.2.1 r.2.2.1 r.2.2.2.1 r.2.2.2.2.1 r.2.2.2.2.2.1 r.2.2.2.2.2.2
structure NumR (r:Rec9):Prop where
 r2:0≤r.2.2.1∧r.2.2.1<18446744073709551616
 o:0≤r.2.2.2.2.1∧r.2.2.2.2.1<18446744073709551616
 w:0≤r.2.2.2.2.2.1∧r.2.2.2.2.2.1<18446744073709551616
 d: ∀d∈r.2.2.2.1,0≤d.f1∧d.f1<18446744073709551616
theorem NumR.of {r:Rec9} (h:okRec r):NumR r:=⟨wf_u64 h.2.2.1,wf_u64 h.2.2.2.2.1,wf_u64 h.2.2.2.2.2.1,fun d hd=>wf_u64 (h.2.2.2.1.2 d hd).2.1⟩
structure GoodR (v:Int) (r:Rec9):Prop where
 may:mayR v r=true
 num:NumR r
theorem putF_yes {v:Int} {T:List ByteArray} {r:Rec9} (h:(putR v T r).2.2=0):mayR v r=true:=by
 unfold putR putF at h
 split at h
 ·split at h
  ·rename_i hm;exact hm
  ·exact absurd h (show ¬(1:Int)=0 by decide)
 ·exact absurd h (show ¬(11:Int)=0 by decide)
theorem putF_may {v:Int} (T:List ByteArray) {r:Rec9} (h:mayR v r=true):putR v T r=(moreE T (if 1<v then tnewOn T (tnew (namesL r.2.1 r.2.2.2.1 r.2.2.2.2.2.2))else T)++[lastE v (if 1<v then tnewOn T (tnew (namesL r.2.1 r.2.2.2.1 r.2.2.2.2.2.2))else T) r.1 r.2.1 r.2.2.1 r.2.2.2.1 r.2.2.2.2.1 r.2.2.2.2.2.1 r.2.2.2.2.2.2],(if 1<v then tnewOn T (tnew (namesL r.2.1 r.2.2.2.1 r.2.2.2.2.2.2))else T),0):=by
 unfold putR putF
 rw[if_pos (may_facts h).ver,if_pos h]
structure PutFit (v:Int) (T:List ByteArray) (F:List (List Int)×List ByteArray×Int):Prop where
 n0:1≤F.1.length
 n1:F.1.length≤19
 t:F.2.1.length≤T.length+18
 nd:F.2.1.Nodup
 b: ∀p∈F.1,p.length≤3000∧∀x∈p,0≤x∧x<256
 z: ∀s∈F.2.1,s∈T∨s.size≤64
theorem put_fit {v:Int} {T:List ByteArray} {r:Rec9} (hT:T.length≤50000) (hd:T.Nodup) (h:GoodR v r):PutFit v T (putR v T r):=by
 have M:=may_facts h.may
 have hnw:=names_few (x1:=r.2.1) (l:=r.2.2.2.1) (x6:=r.2.2.2.2.2.2) M.t.2 M.n (fun d hd=>(M.d d hd).2.1) M.tag.1
 have hby: ∀p∈(putR v T r).1,∀x∈p,0≤x∧x<256:=putF_bytes v T (by omega) r.1 (by have:=M.k;omega) r.2.1 (by have:=M.t;simp only[maxLen];omega) r.2.2.1 h.num.r2.2 r.2.2.2.1 (by have:=M.n;omega) (fun d hd=>⟨by have:=(M.d d hd).2.1;simp only[maxLen];omega,(h.num.d d hd).2⟩) r.2.2.2.2.1 r.2.2.2.2.2.1 h.num.o.2 h.num.w.2 r.2.2.2.2.2.2
 have e:=putF_may T h.may
 obtain⟨T',hT'⟩: ∃T',(if 1<v then tnewOn T (tnew (namesL r.2.1 r.2.2.2.1 r.2.2.2.2.2.2))else T)=T':=⟨_,rfl⟩
 rw[hT']at e
 have hlen:T'.length≤T.length+18:=by
  rw[←hT']
  split
  ·have:=tnewOn_len T (tnew (namesL r.2.1 r.2.2.2.1 r.2.2.2.2.2.2));omega
  ·omega
 have hmem: ∀s∈T',s∈T∨s.size≤64:=by
  rw[←hT']
  split
  ·intro s hs
   rw[mem_tnewOn]at hs
   exact hs.imp id (hnw.2 s)
  ·exact fun s hs=> .inl hs
 have hpre: ∃m,T'=T++m:=by
  rw[←hT']
  split
  ·exact tnewOn_prefix _ _
  ·exact⟨[],by simp⟩
 have hnd:T'.Nodup:=by
  rw[←hT']
  split
  ·exact tnewOn_nodup _ _ hd
  ·exact hd
 rw[e]at hby ⊢
 have hml:(moreE T T').length≤18:=by unfold moreE;rw[List.length_map,List.length_drop];omega
 refine⟨by simp,by simp only[List.length_append,List.length_cons,List.length_nil];omega,hlen,hnd,fun p hp=>⟨?_,hby p hp⟩,hmem⟩
 rcases List.mem_append.1 hp with hp|hp
 ·unfold moreE at hp
  obtain⟨s,hs,rfl⟩:=List.mem_map.1 hp
  obtain⟨m,hm⟩:=hpre
  rw[hm,List.drop_left]at hs
  have hs64:s.size≤64:=by
   have h1:=hmem s (by rw[hm];exact List.mem_append_right _ hs)
   rcases h1 with h1|h1
   ·rw[hm]at hnd
    exact absurd rfl ((List.nodup_append.1 hnd).2.2 s h1 s hs)
   ·exact h1
  unfold defE
  rw[List.length_cons,bytesOf_length]
  omega
 ·simp only[List.mem_singleton]at hp
  subst hp
  have h1:=textE_len v T' (by omega) r.2.1 M.t.2
  have h2:=bodyE_len v T' (by omega) r.2.2.1 r.2.2.2.1 r.2.2.2.2.1 r.2.2.2.2.2.1 r.2.2.2.2.2.2 M.n (fun d hd=>⟨(M.d d hd).2.1,(h.num.d d hd).2⟩) h.num.r2.2 h.num.o.2 h.num.w.2
  unfold lastE
  simp only[List.length_append,List.length_cons,List.length_nil]
  split
  ·simp only[List.length_nil];omega
  ·omega
structure LayFit (l:List Rec9) (s:List (List Int)×List ByteArray):Prop where
 n:s.1.length≤19*l.length
 t:s.2.length≤18*l.length
 nd:s.2.Nodup
 b: ∀p∈s.1,p.length≤3000∧∀x∈p,0≤x∧x<256
abbrev kFix (w:World):Kd Rec9:=Kd.fixed kdRec w
structure RwA (w X:World) (S1 S2:Nat→Prop) (g1 g2:Nat) (T1 T2:List ByteArray) (va vg:Value) (rows:List (List Int)) (good:List Rec9):Prop where
 t1:Tab X S1 g1 T1
 t2:Tab X S2 g2 T2
 dj: ∀k,S1 k→¬S2 k
 s1: ∀k,S1 k→w.heap.size≤k
 s2: ∀k,S2 k→w.heap.size≤k
 bl:Below w.heap.size w X
 ra:Kd.R kRows 22 X w.heap.size (fun k=>¬S1 k∧¬S2 k) va rows
 rg:Kd.R (kFix w) 62 X w.heap.size (fun k=>¬S1 k∧¬S2 k) vg good
section
variable {w X X':World} {S1 S2:Nat→Prop} {g1 g2:Nat} {T1 T2:List ByteArray} {va vg:Value} {rows:List (List Int)} {good:List Rec9}
theorem RwA.below (h:RwA w X S1 S2 g1 g2 T1 T2 va vg rows good) (hb:Below X.heap.size X X'):RwA w X' S1 S2 g1 g2 T1 T2 va vg rows good:=
 ⟨h.t1.keep (Kp.of_below hb (fun _=>False)) (fun _ _ h=>h),h.t2.keep (Kp.of_below hb (fun _=>False)) (fun _ _ h=>h),h.dj,h.s1,h.s2,h.bl.trans (hb.mono h.bl.size),Kd.R_below h.ra hb,Kd.R_below h.rg hb⟩
end
end Go.Proofs.Ytmeocdkiecknkaa
namespace Go.Proofs.Ytmeocdkiecknkaa
open Go.RowKit Go.Proofs.YtmeocdkiecknkaaW.PrintWords Go.Proofs.Ytmeocdkiecknkaa.GRR
theorem wlast_is (v:Int) (hv:1≤v∧v≤3) {l:List Int} (hb: ∀x∈l,0≤x∧x<256) (hl:l.length≤1000000) (A:Option Addr) (c:Nat) (T:List ByteArray) (hT:T.length≤1000000) (w:World) (hC:Kd.C Kd.string w A T.length T):
  Calls Try.prog 76 #[.int .i64 v, .slice A T.length c, .string (strOfNums l)] w (RLastPost w (lastW v T l)):=by
 obtain⟨N1,hN1⟩: ∃N,cuNum l 0 0=N:=⟨_,rfl⟩
 obtain⟨k,a1,e1⟩:=N1
 have hx: ∀{k' a' e':Int},cuNum l 0 0=(k',a',e')→k'=k∧e'=e1:=fun h=>by rw[hN1]at h;cases h;exact⟨rfl,rfl⟩
 by_cases hbad:e1≠0∨(k≠1∧k≠2)
 ·exact wlast_bad v hb hl A c T hT w hC (fun h=>by obtain⟨rfl,rfl⟩:=hx h;exact hbad)
 ·by_cases hk:k=1
  ·have hv3:v=1∨v=2∨v=3:=by omega
   rcases hv3 with rfl|rfl|rfl
   ·exact wlast_v1 hb hl A c T hT w hC (fun h=>by obtain⟨rfl,rfl⟩:=hx h;omega)
   ·exact wlast_v2 hb hl A c T hT w hC (fun h=>by obtain⟨rfl,rfl⟩:=hx h;omega)
   ·exact wlast_v3 hb hl A c T hT w hC (fun h=>by obtain⟨rfl,rfl⟩:=hx h;omega)
  ·exact wlast_g2 v hb hl A c T hT w hC (fun h=>by obtain⟨rfl,rfl⟩:=hx h;omega)
theorem vb_kind (n:Nat) (h:n=1∨n=2):ints (vb n)=[(n:Int)]:=by rw[vb_small n (by omega)];rfl
theorem kind_byte {l:List Int} (hb: ∀x∈l,0≤x∧x<256) {k a e:Int} (h:cuNum l 0 0=(k,a,e)) (he:e=0) (hk:k=1∨k=2):cuByte l 0 0=(k,a,e):=by
 subst he
 unfold cuNum at h
 rw[if_neg (by simp)]at h
 rcases getS_cases l hb 0 with⟨ec,h1,h2⟩|⟨lo,n,p,ha,h1,h2,h3,h4,h5⟩
 ·rw[h1,if_pos (by show ec≠0;omega)]at h
  cases h
  omega
 ·rw [h1,if_neg (by simp)]at h
  cases h
  obtain rfl:lo=0:=by omega
  rw[List.drop_zero,vb_kind n (by omega)]at h5
  have hp:p=1:=by
   have:=congrArg List.length h5
   rw[List.length_take,List.length_singleton]at this
   omega
  subst hp
  unfold cuByte
  rw[if_neg (by simp),if_neg (by omega)]
  have hr:rd l 0=(n:Int):=by
   match l,h3 with
   |x::r,_=>
    simp at h5
    simp[rd,h5]
  rw[hr]
  rfl
theorem kind_num {l:List Int} {k:Int} (hk:k=1∨k=2) (h: ∃r,l=k::r):cuNum l 0 0=(k,1,0):=by
 obtain⟨r,rfl⟩:=h
 have hv:=cuNum_vb [] k r (by omega)
 have e:ints (vb k.toNat)=[k]:=by rw[vb_kind _ (by omega),Int.toNat_of_nonneg (by omega)]
 rw[e]at hv
 simpa using hv
theorem lastW_yes {v:Int} {T:List ByteArray} {l:List Int} (hb: ∀x∈l,0≤x∧x<256) (h:(lastW v T l).2=true):(lastW v T l).1=(lastR v T l).1:=by
 unfold lastW at h ⊢
 obtain⟨N1,hN1⟩: ∃N,cuNum l 0 0=N:=⟨_,rfl⟩
 rw[hN1]at h ⊢
 obtain⟨k,a1,e1⟩:=N1
 dsimp only at h ⊢
 by_cases hbad:e1≠0∨(k≠1∧k≠2)
 ·rw[if_pos hbad]at h;cases h
 ·rw[if_neg hbad]at h ⊢
  rw[lastR_K,kind_byte hb hN1 (by omega) (by omega)]
def getW (v:Int) (T:List ByteArray) (ps:List (List Int)) (a n:Nat):Rec9×Int×List ByteArray×Int:=
 let R:=lastW v (tnewOn T (((ps.drop a).take (n-a)).map defS)) (ps.getD n [])
 let F:=putF v T R.1.1 R.1.2.1 R.1.2.2.1 R.1.2.2.2.1 R.1.2.2.2.2.1 R.1.2.2.2.2.2.1 R.1.2.2.2.2.2.2
 if R.2=true∧F.2.2=0∧F.1=(ps.take (n+1)).drop a then(R.1,((n+1:Nat):Int),F.2.1,0)else(rec0,0,T,3)
theorem seg_last {α:Type} {A:List α} {x:α} {ps:List α} {a n:Nat} (d:α) (ha:a≤n) (hn:n<ps.length) (h:A++[x]=(ps.take (n+1)).drop a):A=(ps.drop a).take (n-a)∧ps.getD n d=x:=by
 rw[List.take_succ_eq_append_getElem hn,List.drop_append_of_le_length (by rw[List.length_take];omega)]at h
 obtain⟨h1,h2⟩:=List.append_inj' h rfl
 refine⟨by rw[h1,List.drop_take], ?_⟩
 have:=(List.singleton_inj.1 h2)
 rw[this]
 simp[hn]
theorem getW_is {v:Int} {T:List ByteArray} (hT:T.length≤100000) (hd:T.Nodup) (hs: ∀s∈T,s.size≤maxLen) {ps:List (List Int)} (hps: ∀p∈ps,p.length≤3000∧∀x∈p,0≤x∧x<256) {a n:Nat} (ha:a≤n) (hn:n<ps.length):
  getW v T ps a n=getG v T ps a n (lastR v (tnewOn T (((ps.drop a).take (n-a)).map defS)) (ps.getD n [])).1:=by
 obtain⟨al,hal⟩: ∃x,tnewOn T (((ps.drop a).take (n-a)).map defS)=x:=⟨_,rfl⟩
 have hpm:ps.getD n []∈ps:=by
  have e:ps.getD n []=ps[n]:=by simp[hn]
  rw[e];exact List.getElem_mem _
 obtain⟨p,hp⟩: ∃x,ps.getD n []=x:=⟨_,rfl⟩
 rw[hp]at hpm
 have hb:=(hps p hpm).2
 unfold getW getG
 rw[hal,hp]
 dsimp only
 cases hW:(lastW v al p).2 with
 |true=>
  rw[lastW_yes hb hW]
  by_cases hc:(putF v T (lastR v al p).1.1 (lastR v al p).1.2.1 (lastR v al p).1.2.2.1 (lastR v al p).1.2.2.2.1 (lastR v al p).1.2.2.2.2.1 (lastR v al p).1.2.2.2.2.2.1 (lastR v al p).1.2.2.2.2.2.2).2.2=0∧(putF v T (lastR v al p).1.1 (lastR v al p).1.2.1 (lastR v al p).1.2.2.1 (lastR v al p).1.2.2.2.1 (lastR v al p).1.2.2.2.2.1 (lastR v al p).1.2.2.2.2.2.1 (lastR v al p).1.2.2.2.2.2.2).1=(ps.take (n+1)).drop a
  ·rw[if_pos ⟨rfl,hc⟩,if_pos hc]
  ·rw[if_neg (fun h=>hc h.2),if_neg hc]
 | false=>
  rw[if_neg (by rintro⟨h,_⟩;cases h)]
  rw[if_neg]
  rintro⟨h1,h2⟩
  have hsz: ∀s∈al,s.size≤maxLen:=by
   intro s hsm
   rw[←hal,mem_tnewOn]at hsm
   rcases hsm with hsm|hsm
   ·exact hs s hsm
   ·obtain⟨q,hq,rfl⟩:=List.mem_map.1 hsm
    have hqm:q∈ps:=List.mem_of_mem_drop (List.mem_of_mem_take hq)
    unfold defS
    rw[strOfNums_size,List.length_tail]
    have:=(hps q hqm).1
    simp only[maxLen]
    omega
  have hrg:=lastR_rg (v:=v) (T:=al) (l:=p) hsz hb (by have:=(hps p hpm).1;omega)
  have hlw: ∀r,r=(lastR v al p).1→(lastW v al p).2=true:=by
   intro r hr
   rw[←hr]at h1 h2 hrg
   have hm:mayR v r=true:=putF_yes h1
   have M:=may_facts hm
   have e:=putF_may T hm
   unfold putR at e
   rw[e]at h2
   dsimp only at h2
   obtain⟨T',hT'⟩: ∃T',(if 1<v then tnewOn T (tnew (namesL r.2.1 r.2.2.2.1 r.2.2.2.2.2.2))else T)=T':=⟨_,rfl⟩
   rw[hT']at h2
   obtain⟨g1,g2⟩:=seg_last [] ha hn h2
   have hall:al=T':=by
    rw[←hal,←g1,←hT']
    split
    ·exact tnewOn_more hd _
    ·rw[moreE_self];rfl
   have hnw:=names_few (x1:=r.2.1) (l:=r.2.2.2.1) (x6:=r.2.2.2.2.2.2) M.t.2 M.n (fun d hd=>(M.d d hd).2.1) M.tag.1
   have hlen:T'.length≤1000000:=by
    rw[←hT']
    split
    ·have:=tnewOn_len T (tnew (namesL r.2.1 r.2.2.2.1 r.2.2.2.2.2.2));omega
    ·omega
   have hrt:=lastR_rt v T' hlen r.1 r.2.1 r.2.2.1 r.2.2.2.1 r.2.2.2.2.1 r.2.2.2.2.2.1 r.2.2.2.2.2.2 hm hrg.r2 hrg.o hrg.w (fun d hd=>(hrg.d d hd).2) (fun hv s hs=>by
    rw[←hT',if_pos (by have:=M.ver;omega),mem_tnewOn,mem_tnew]
    exact .inr hs)
   have hpe:p=lastE v T' r.1 r.2.1 r.2.2.1 r.2.2.2.1 r.2.2.2.2.1 r.2.2.2.2.2.1 r.2.2.2.2.2.2:=hp.symm.trans g2
   have hk0: ∃q,p=r.1::q:=by
    rw[hpe];unfold lastE;rw[List.append_assoc];exact⟨_,rfl⟩
   have hkn:=kind_num M.k hk0
   rw[←hpe,←hall]at hrt
   rw[lastR_K,kind_byte hb hkn rfl M.k]at hrt
   unfold lastW
   rw[hkn]
   dsimp only at hrt ⊢
   rw[if_neg (by have:=M.k;omega),hrt]
   unfold pl
   simp
  have:=hlw _ rfl
  rw[hW]at this
  cases this
def posI8 (l:List ByteArray) (s:ByteArray):Int:=if isIn l s then(posOf l s:Int)else -1
theorem place_l08 (l:List ByteArray) (hl:l.length≤1000000) (s:ByteArray): ∀(d i k:Nat),l.length=i+d→d<k→s ∉ l.take i→tephraref07_Place.l0 k l s (i:Int)=some (posI8 l s):=by
 intro d
 induction d with
 |zero=>
  intro i k hi hk hn
  obtain⟨k,rfl⟩: ∃m,k=m+1:=⟨k-1,by omega⟩
  simp only[tephraref07_Place.l0]
  rw[if_neg (by omega)]
  rw[List.take_of_length_le (by omega)]at hn
  unfold posI8;rw[isIn_ne.2 hn];rfl
 | succ d ih=>
  intro i k hi hk hn
  obtain⟨k,rfl⟩: ∃m,k=m+1:=⟨k-1,by omega⟩
  have hlt:i<l.length:=by omega
  have hz:rdOf ByteArray.empty l (i:Int)=l[i]:=by simp[rdOf,hlt]
  simp only[tephraref07_Place.l0]
  rw[if_pos (by omega),if_pos (by omega),hz,Lib.toList_data,Lib.toList_data]
  by_cases e:l[i].data.toList=s.data.toList
  ·rw [if_pos e]
   have e2:l[i]=s:=ByteArray.ext (Array.ext' e)
   have hm:s∈l:=by rw[←e2];exact List.getElem_mem _
   unfold posI8
   rw[isIn_iff.2 hm,if_pos rfl]
   congr 1
   have h1:l=l.take i++l.drop i:=(List.take_append_drop i l).symm
   have h2:posOf l s=(l.take i).length+posOf (l.drop i) s:=by
    conv=>lhs;rw[h1]
    exact posOf_app_not hn
   rw[List.length_take,List.drop_eq_getElem_cons hlt,e2]at h2
   have h3:posOf (s::l.drop (i+1)) s=0:=by unfold posOf;rw[List.findIdx_cons,sEq_refl];rfl
   rw[h3]at h2
   omega
  ·rw[if_neg e]
   have hw:wrap64 ((i:Int)+1)=((i+1:Nat):Int):=by unfold wrap64;omega
   rw[hw]
   refine ih (i+1) k (by omega) (by omega) ?_
   rw[List.take_succ_eq_append_getElem hlt,List.mem_append,List.mem_singleton]
   rintro (h|h)
   ·exact hn h
   ·exact e (by rw[h])
theorem place_is8 (l:List ByteArray) (hl:l.length≤1000000) (s:ByteArray) (k:Nat) (hk:l.length<k):tephraref07_Place.f k l s=some (posI8 l s):=by
 unfold tephraref07_Place.f
 exact place_l08 l hl s l.length 0 k (by omega) hk (by simp)
theorem posI8_ge (l:List ByteArray) (s:ByteArray):posI8 l s≥0↔s∈l:=by
 unfold posI8
 cases h:isIn l s with
 |true=>simp;exact isIn_iff.1 h
 |false=>simp;exact isIn_ne.1 h
theorem rput_is8 (l:List ByteArray) (hl:l.length≤1000000) (s:ByteArray) (k:Nat) (hk:l.length<k):tephraref07_Put.f k l s=some (tput l s):=by
 unfold tephraref07_Put.f
 rw[place_is8 l hl s k hk]
 simp only[Option.bind_some,List.nil_append,List.length_nil]
 by_cases hs:s∈l
 ·rw[if_pos ((posI8_ge l s).2 hs),tput_in hs]
 ·rw[if_neg (fun h=>hs ((posI8_ge l s).1 h)),if_pos (by omega),if_pos (by omega),tput_out hs]
theorem rnew_is8 (ts:List ByteArray) (hl:ts.length≤1000): ∀(d i k:Nat),ts.length=i+d→2000+d<k→tephraref07_New.l0 k ts (tnew (ts.take i)) (i:Int)=some (tnew ts):=by
 intro d
 induction d with
 |zero=>
  intro i k hi hk
  obtain⟨k,rfl⟩: ∃m,k=m+1:=⟨k-1,by omega⟩
  simp only[tephraref07_New.l0]
  rw[if_neg (by omega),List.take_of_length_le (by omega)]
 |succ d ih=>
  intro i k hi hk
  obtain⟨k,rfl⟩: ∃m,k=m+1:=⟨k-1,by omega⟩
  have hlt:i<ts.length:=by omega
  have hz:rdOf ByteArray.empty ts (i:Int)=ts[i]:=by simp[rdOf,hlt]
  have hln:=tnew_len (ts.take i)
  rw[List.length_take]at hln
  simp only[tephraref07_New.l0]
  rw[if_pos (by omega),if_pos (by omega),hz,rput_is8 _ (by omega) _ _ (by omega)]
  simp only[Option.bind_some]
  have hw:wrap64 ((i:Int)+1)=((i+1:Nat):Int):=by unfold wrap64;omega
  rw[hw,←tnew_take ts i hlt]
  exact ih (i+1) k (by omega) (by omega)
theorem names_l0 (a0:Int) (t:ByteArray) (a2:Int) (l:List S109) (a4 a5:Int) (tag:ByteArray) (hl:l.length≤900): ∀(d i k:Nat),l.length=i+d→5000+d<k→
  tephraref08_Names.l0 k (t::(l.take i).map (·.f0)) (i:Int) a0 t a2 l a4 a5 tag=some (tnew (namesL t l tag)):=by
 intro d
 induction d with
 | zero=>
  intro i k hi hk
  obtain⟨k,rfl⟩: ∃m,k=m+1:=⟨k-1,by omega⟩
  rw[List.take_of_length_le (by omega)]
  simp only[tephraref08_Names.l0]
  rw[if_neg (by omega)]
  unfold namesL tephraref07_New.f
  split
  ·rename_i h
   rw[List.append_nil]
   have:=rnew_is8 (t::l.map (·.f0)) (by simp;omega) (t::l.map (·.f0)).length 0 k (by omega) (by simp;omega)
   rw[List.take_zero]at this
   have h0:tephraref07_New.l0 k (t::l.map (·.f0)) ([]:List ByteArray) 0=some (tnew (t::l.map (·.f0))):=this
   rw[h0];rfl
  ·rw[if_pos (by simp;omega)]
   have:=rnew_is8 (t::l.map (·.f0)++[tag]) (by simp;omega) (t::l.map (·.f0)++[tag]).length 0 k (by omega) (by simp;omega)
   rw[List.take_zero]at this
   have h0:tephraref07_New.l0 k (t::l.map (·.f0)++[tag]) ([]:List ByteArray) 0=some (tnew (t::l.map (·.f0)++[tag])):=this
   rw[h0];rfl
 |succ d ih=>
  intro i k hi hk
  obtain⟨k,rfl⟩: ∃m,k=m+1:=⟨k-1,by omega⟩
  have hlt:i<l.length:=by omega
  simp only[tephraref08_Names.l0]
  rw[if_pos (by omega),if_pos (by omega),if_pos (by simp;omega),rd_dep l i hlt,wr1 i l.length hlt (by omega),List.cons_append,←names_take hlt]
  exact ih (i+1) k (by omega) (by omega)
theorem names_is (a0:Int) (t:ByteArray) (a2:Int) (l:List S109) (a4 a5:Int) (tag:ByteArray) (hl:l.length≤900) (k:Nat) (hk:6000<k):tephraref08_Names.f k a0 t a2 l a4 a5 tag=some (tnew (namesL t l tag)):=by
 unfold tephraref08_Names.f
 exact names_l0 a0 t a2 l a4 a5 tag hl l.length 0 k (by omega) (by omega)
theorem atI_pos {T:List ByteArray} {s:ByteArray} (h:s∈T):posI8 T s=atI T s:=by unfold posI8 atI;rw[isIn_iff.2 h];rfl
theorem rtput_any (A:Option Addr) (c:Nat) (T:List ByteArray) (s:ByteArray) (W:World) (hC:Kd.C Kd.string W A T.length T) (hc:T.length≤c) (hT:T.length≤1000000):
  Calls Try.prog 66 #[.slice A T.length c, .string s] W fun e W'=>∃A' c',e= .returned (.slice A' (tput T s).length c')∧(tput T s).length≤c'∧Kd.C Kd.string W' A' (tput T s).length (tput T s)∧Below W.heap.size W W'∧(s ∉ T→Kd.R Kd.string 9 W' W.heap.size (fun _=>True) (.slice A' (tput T s).length c') (tput T s)):=by
 have HP:=Lib.hid (tephraref07_Place.calls (T.length+1) A c T s (posI8 T s) W hC hc (place_is8 T hT s _ (by omega)))
 have HC:=Lib.hid hC
 have hge:=posI8_ge T s
 by_cases hs:s∈T
 ·rw[tput_in hs]
  have hd:decide (0≤posI8 T s)=true:=decide_eq_true (hge.2 hs)
  have HIN:=Lib.hid hs
  clear hC hge hs
  generalize posI8 T s=q at*
  go_enter Try.func66,Try.ntmps66
  go_wp2_with fail
  refine HP.out.mono ?_
  rintro e w1 ⟨rfl,hdr⟩
  have hb:=hdr.below
  have HB:=Lib.hid hb
  clear hdr hb HP
  go_wp2_with fail
  go_ret
  exact⟨A,c,rfl,hc,Kd.C_below HC.out HB.out,HB.out,fun h=>absurd HIN.out h⟩
 ·rw[tput_out hs]
  have hd:decide (0≤posI8 T s)=false:=decide_eq_false (fun h=>hs (hge.1 h))
  clear hC hge hs
  generalize posI8 T s=q at*
  go_enter Try.func66,Try.ntmps66
  go_wp2_with fail
  refine HP.out.mono ?_
  rintro e w1 ⟨rfl,hdr⟩
  have hb:=hdr.below
  have HB:=Lib.hid hb
  clear hdr hb HP
  go_wp2_with (at_builtin;refine Halt.mk ?_)
  refine Halt.of ?_
  have hb2:Below w1.heap.size w1 (w1.alloc (.cells #[] 9)):=(Below.refl _ _).alloc (Nat.le_refl _) _
  have hR2:=R_empty Kd.string (w1.alloc (.cells #[] 9)) w1.heap.size w1.heap.size 9 (fun _=>True) (heap_new _ _) (Nat.le_refl _) trivial
  have HC2:=Kd.C_below (Kd.C_below HC.out HB.out) hb2
  refine Kd.R_append_rows Kd.string (w0:=w1) w1.heap.size rfl (.tmp 10) (.tmp 11) 45 9 (.string ⟨#[]⟩) 16 rfl Try.underlying45 info_str9 rfl (by decide) (by omega) _ [] T _ _ _ (fun _=>True) (fun _=>False) rfl rfl hR2 HC2 ?_ (fun _ h=>h.elim) (fun _ _=>trivial) hb2 hb2.size (by simp only[List.length_nil];omega) ?_
  ·intro x cs h;exact h
  intro v3 w3 hR3 hb3 _ _
  rw[List.nil_append]at hR3
  have HR3:=Lib.hid hR3
  have HB3:=Lib.hid hb3
  obtain⟨A3,c3,rfl⟩:=Kd.R_slice hR3
  clear hR3 hb3 hR2 HC2 hb2
  go_wp2_with (at_builtin;refine Halt.mk ?_)
  refine Halt.of ?_
  have hb4:Below w3.heap.size w3 (w3.alloc (.cells #[.string s] 9)):=(Below.refl _ _).alloc (Nat.le_refl _) _
  have hk4:(w3.alloc (.cells #[.string s] 9)).heap[w3.heap.size]? =some (.cells #[.string s] 9 (0,0)):=heap_new _ _
  have hB4:=HB3.out.trans (hb4.mono HB3.out.size)
  refine Kd.R_append_rows Kd.string (w0:=w1) w1.heap.size rfl (.tmp 12) (.tmp 14) 45 9 (.string ⟨#[]⟩) 16 rfl Try.underlying45 info_str9 rfl (by decide) (by omega) _ T [s] _ _ _ (fun _=>True) (fun _=>False) rfl rfl (Kd.R_below HR3.out hb4) (row_val s hk4) ?_ (fun _ h=>h.elim) (fun _ _=>trivial) hB4 hB4.size (by omega) ?_
  ·rintro _ _ ⟨rfl,rfl⟩;rfl
  intro v5 w5 hR5 hb5 _ _
  obtain⟨A5,c5,rfl⟩:=Kd.R_slice hR5
  have HR5:=Lib.hid (Kd.R_reads' hR5)
  have HRR:=Lib.hid (Kd.R_lower hR5 HB.out.size)
  have HB5:=Lib.hid (HB.out.trans (hb5.mono HB.out.size))
  clear hR5 hb5 hb4 hk4 hB4
  go_wp2_with fail
  go_ret
  have hl5:(T++[s]).length=T.length+1:=by simp
  exact⟨A5,c5,rfl,hl5 ▸ HR5.out.2.1,hl5 ▸ HR5.out.2.2,HB5.out,fun _=>by have:=HRR.out;rwa [hl5]at this⟩
theorem rtext9_any (v:Int) (A:Option Addr) (c:Nat) (T:List ByteArray) (s:ByteArray) (W:World) (hC:Kd.C Kd.string W A T.length T) (hc:T.length≤c) (hT:T.length≤1000000) (hs:s.size≤1000000) (hin:v≠1→s∈T):
  Calls Try.prog 68 #[.int .i64 v, .slice A T.length c, .string s] W fun e W'=>e= .returned (.string (strOfNums (textE v T s)))∧Below W.heap.size W W':=by
 by_cases hv:v=1
 ·have hd:decide (v=1)=true:=decide_eq_true hv
  have hd2:(v==1)=true:=by simp[hv]
  have HB:=Lib.hid (rbput_any s (by omega))
  unfold textE
  rw[if_pos hv]
  clear hC hin hv
  go_enter Try.func68,Try.ntmps68
  go_wp2_with fail
  refine(HB.out _).mono ?_
  rintro e w1 ⟨rfl,hb⟩
  go_wp2_with fail
  go_ret
  exact⟨rfl,hb⟩
 ·have hd:decide (v=1)=false:=decide_eq_false hv
  have hd2:(v==1)=false:=by simp[hv]
  have hs2:=hin hv
  have HP:=Lib.hid (tephraref07_Place.calls (T.length+1) A c T s (posI8 T s) W hC hc (place_is8 T hT s _ (by omega)))
  rw[atI_pos hs2]at HP
  have hbd:=atI_bd T s hT
  obtain⟨q,hq⟩: ∃q:Nat,atI T s=(q:Int):=⟨(atI T s).toNat,by omega⟩
  have HPU:=Lib.hid (refput_any q (by omega))
  unfold textE numE
  rw[if_neg hv]
  rw[hq]at HP hbd ⊢
  rw[Int.toNat_natCast]
  have hw:IntKind.u64.wrap (q:Int)=(q:Int):=by rw[IntKind.wrap_u64];omega
  clear hC hin hv hs2 hq hbd
  go_enter Try.func68,Try.ntmps68
  go_wp2_with fail
  refine HP.out.mono ?_
  rintro e w1 ⟨rfl,hdr⟩
  have hb1:=hdr.below
  have HB1:=Lib.hid hb1
  clear hdr hb1 HP
  go_wp2_with fail
  refine(HPU.out w1).mono ?_
  rintro e w2 ⟨rfl,hb⟩
  go_wp2_with fail
  go_ret
  exact⟨rfl,HB1.out.trans (hb.mono HB1.out.size)⟩
def rowRw (r2 r6:Option Nat) (i:Nat):Option Nat:=match i with
 | 2=>r2
 | 6=>r6
 |_=>none
theorem rowRw_ne {r2 r6:Option Nat} (i q:Nat) (h2:i≠2∨some q≠r2) (h6:i≠6∨some q≠r6):some q≠rowRw r2 r6 i:=by
 unfold rowRw
 split
 ·exact h2.resolve_left (fun h=>h rfl)
 ·exact h6.resolve_left (fun h=>h rfl)
 ·simp
structure RestRw (r2 r6:Option Nat) (wc X:World):Prop where
 size:wc.heap.size≤X.heap.size
 eq: ∀q,q<wc.heap.size→some q≠r2→some q≠r6→X.heap[q]? =wc.heap[q]?
theorem RestRw.step {r2 r6:Option Nat} {wc X X':World} (h:RestRw r2 r6 wc X) {i:Nat} (hg:X.grownBy X' (rowRw r2 r6 i)) (hs:X.heap.size≤X'.heap.size):RestRw r2 r6 wc X':=
 ⟨Nat.le_trans h.size hs,fun q hq h2 h6=>(hg.block q (Nat.lt_of_lt_of_le hq h.size) (rowRw_ne i q (.inr h2) (.inr h6))).trans (h.eq q hq h2 h6)⟩
theorem xeq_no {a b:ByteArray} (h: ¬a=b):a≠b∧a.toList≠b.toList∧(a.toList==b.toList)=false:=by
 have h2:a.toList≠b.toList:=fun e=>h (tl_eq.1 e)
 exact⟨h,h2,by simpa using h2⟩
theorem met_no {l:List S109} {j:Nat} {f0 d0:ByteArray} (hj:(l.take (j+1)).map (·.f0)=(l.take j).map (·.f0)++[f0]) (hn:d0 ∉ (l.take j).map (·.f0)) (hf: ¬f0=d0):d0 ∉ (l.take (j+1)).map (·.f0):=by
 rw[hj,List.mem_append]
 intro h
 rcases h with h|h
 ·exact hn h
 ·simp only[List.mem_singleton]at h
  exact hf h.symm
theorem met_yes {l:List S109} {j i:Nat} {f0:ByteArray} {D M:Bool} (hj:(l.take (j+1)).map (·.f0)=(l.take j).map (·.f0)++[f0]) (hji:j+1≤i) (h:(!isIn ((l.take i).map (·.f0)) f0&&D)=M):false=M:=by
 have h2:l.take i=l.take (j+1)++(l.take i).drop (j+1):=by
  have h:=(List.take_append_drop (j+1) (l.take i)).symm
  rwa [List.take_take,Nat.min_eq_left hji]at h
 rw[←h,isIn_iff.2 (by rw[h2,List.map_append];exact List.mem_append_left _ (by rw[hj];simp))]
 simp
theorem bae_iff {s:ByteArray}:s=ByteArray.empty↔s.size=0:=⟨fun h=>by rw[h];rfl,fun h=>ByteArray.ext (Array.eq_empty_of_size_eq_zero h)⟩
theorem tl_empty (s:ByteArray):s.toList.isEmpty=decide (s.size=0):=by rw[Bool.eq_iff_iff,List.isEmpty_iff,decide_eq_true_eq,tl_nil]
set_option maxRecDepth 100000 in
set_option maxHeartbeats 2000000 in
theorem rmay_v (v k0:Int) (x1:ByteArray) (x2:Int) (ds:List S109) (x4 x5:Int) (x6:ByteArray) (A:Option Addr) (c:Nat) (w:World) (hC:Kd.C k109 w A ds.length ds) (hv: ¬(1≤v∧v≤3)):
  Calls Try.prog 63 #[.int .i64 v, .agg #[.int .i64 k0, .string x1, .int .u64 x2, .slice A ds.length c, .int .u64 x4, .int .u64 x5, .string x6]] w fun e w'=>e= .returned (.bool false)∧Below w.heap.size w w':=by
 have hm:=hC.2.1
 obtain⟨w1,hw1⟩: ∃w1,w.alloc (.cells #[.int .i64 k0, .string x1, .int .u64 x2, .slice A ds.length c, .int .u64 x4, .int .u64 x5, .string x6] 62)=w1:=⟨_,rfl⟩
 have hb1:Below w.heap.size w w1:=by rw[←hw1];exact(Below.refl _ _).alloc (Nat.le_refl _) _
 have HB1:=Lib.hid hb1
 have HW1:=Lib.hid hw1
 have HC:=Lib.hid hC
 clear hC hb1 hw1
 go_enter Try.func63,Try.ntmps63
 by_cases h1:v<1
 ·have d1:decide (v<1)=true:=decide_eq_true h1
  go_wp2_with fail
  rw[HW1.out]
  go_ret
  exact⟨rfl,HB1.out⟩
 ·have d1:decide (v<1)=false:=decide_eq_false h1
  have d2:decide (3<v)=true:=decide_eq_true (by omega)
  go_wp2_with fail
  rw[HW1.out]
  go_ret
  exact⟨rfl,HB1.out⟩
set_option maxRecDepth 100000 in
set_option maxHeartbeats 2000000 in
theorem rmay_n (v k0:Int) (x1:ByteArray) (x2:Int) (ds:List S109) (x4 x5:Int) (x6:ByteArray) (A:Option Addr) (c:Nat) (w:World) (hC:Kd.C k109 w A ds.length ds) (hv:1≤v∧v≤3) (hn:nameB x1=false):
  Calls Try.prog 63 #[.int .i64 v, .agg #[.int .i64 k0, .string x1, .int .u64 x2, .slice A ds.length c, .int .u64 x4, .int .u64 x5, .string x6]] w fun e w'=>e= .returned (.bool false)∧Below w.heap.size w w':=by
 have hm:=hC.2.1
 obtain⟨w1,hw1⟩: ∃w1,w.alloc (.cells #[.int .i64 k0, .string x1, .int .u64 x2, .slice A ds.length c, .int .u64 x4, .int .u64 x5, .string x6] 62)=w1:=⟨_,rfl⟩
 have hb1:Below w.heap.size w w1:=by rw[←hw1];exact(Below.refl _ _).alloc (Nat.le_refl _) _
 have HB1:=Lib.hid hb1
 have HW1:=Lib.hid hw1
 have HC:=Lib.hid hC
 have d1:decide (v<1)=false:=decide_eq_false (by omega)
 have d2:decide (3<v)=false:=decide_eq_false (by omega)
 clear hC hb1 hw1
 go_enter Try.func63,Try.ntmps63
 go_wp2_with fail
 rw[HW1.out]
 refine(tephraref08_Name.calls x1 _ _ (rname_is x1)).mono ?_
 rintro e w2 ⟨rfl,hd2⟩
 rw[hn]
 have HB2:=Lib.hid (HB1.out.trans (hd2.below.mono HB1.out.size))
 clear hd2
 go_wp2_with fail
 go_ret
 exact⟨rfl,HB2.out⟩
set_option maxRecDepth 100000 in
set_option maxHeartbeats 2000000 in
theorem rmay_2t (v k0:Int) (x1:ByteArray) (x2:Int) (ds:List S109) (x4 x5:Int) (x6:ByteArray) (A:Option Addr) (c:Nat) (w:World) (hC:Kd.C k109 w A ds.length ds) (hv:1≤v∧v≤3) (hn:nameB x1=true) (hk:k0=2) (hb:x2=0∧ds.length=0∧x4=0∧x5=0∧x6.size=0):
  Calls Try.prog 63 #[.int .i64 v, .agg #[.int .i64 k0, .string x1, .int .u64 x2, .slice A ds.length c, .int .u64 x4, .int .u64 x5, .string x6]] w fun e w'=>e= .returned (.bool true)∧Below w.heap.size w w':=by
 have hm:=hC.2.1
 obtain⟨w1,hw1⟩: ∃w1,w.alloc (.cells #[.int .i64 k0, .string x1, .int .u64 x2, .slice A ds.length c, .int .u64 x4, .int .u64 x5, .string x6] 62)=w1:=⟨_,rfl⟩
 have hb1:Below w.heap.size w w1:=by rw[←hw1];exact(Below.refl _ _).alloc (Nat.le_refl _) _
 have HB1:=Lib.hid hb1
 have HW1:=Lib.hid hw1
 have HC:=Lib.hid hC
 have hk1:w1.heap[w.heap.size]? =some (.cells #[.int .i64 k0, .string x1, .int .u64 x2, .slice A ds.length c, .int .u64 x4, .int .u64 x5, .string x6] 62 (0,0)):=by rw[←hw1];exact heap_new _ _
 obtain⟨b1,hbb⟩: ∃b,w.heap.size=b:=⟨_,rfl⟩
 rw[hbb]at hk1
 have HK1:=Lib.hid hk1
 have HBB:=Lib.hid hbb
 clear hk1 hbb
 have d1:decide (v<1)=false:=decide_eq_false (by omega)
 have d2:decide (3<v)=false:=decide_eq_false (by omega)
 obtain⟨h2,h3,h4,h5,h6⟩:=hb
 subst hk h2 h4 h5
 have H3:=Lib.hid h3
 have H6:=Lib.hid h6
 clear h3 h6
 clear hC hb1 hw1
 go_enter Try.func63,Try.ntmps63
 go_wp2_with fail
 rw[HW1.out,HBB.out]
 refine(tephraref08_Name.calls x1 _ _ (rname_is x1)).mono ?_
 rintro e w2 ⟨rfl,hd2⟩
 rw[hn]
 have HB2:=Lib.hid (HB1.out.trans (hd2.below.mono HB1.out.size))
 have hk2:=blk_below HK1.out hd2.below
 have HK2:=Lib.hid hk2
 have q0:=(blk_cell hk2 0).trans rfl
 have q1:=(blk_cell hk2 1).trans rfl
 have q2:=(blk_cell hk2 2).trans rfl
 have q3:=(blk_cell hk2 3).trans rfl
 have q4:=(blk_cell hk2 4).trans rfl
 have q5:=(blk_cell hk2 5).trans rfl
 have q6:=(blk_cell hk2 6).trans rfl
 clear hd2 hk2
 go_wp2_with fail
 all_goals first|(go_ret;refine⟨?_,HB2.out⟩;first|rfl|exact congrArg (fun b=>Ending.returned (.bool b)) (decide_eq_true (bae_iff.2 H6.out))|exact congrArg (fun b=>Ending.returned (.bool b)) ((tl_empty x6).trans (decide_eq_true H6.out)))|(exfalso;have h3:=H3.out;simp_all)
set_option maxRecDepth 100000 in
set_option maxHeartbeats 2000000 in
theorem rmay_2f (v k0:Int) (x1:ByteArray) (x2:Int) (ds:List S109) (x4 x5:Int) (x6:ByteArray) (A:Option Addr) (c:Nat) (w:World) (hC:Kd.C k109 w A ds.length ds) (hv:1≤v∧v≤3) (hn:nameB x1=true) (hk:k0=2) (hb: ¬(x2=0∧ds.length=0∧x4=0∧x5=0∧x6.size=0)):
  Calls Try.prog 63 #[.int .i64 v, .agg #[.int .i64 k0, .string x1, .int .u64 x2, .slice A ds.length c, .int .u64 x4, .int .u64 x5, .string x6]] w fun e w'=>e= .returned (.bool false)∧Below w.heap.size w w':=by
 have hm:=hC.2.1
 obtain⟨w1,hw1⟩: ∃w1,w.alloc (.cells #[.int .i64 k0, .string x1, .int .u64 x2, .slice A ds.length c, .int .u64 x4, .int .u64 x5, .string x6] 62)=w1:=⟨_,rfl⟩
 have hb1:Below w.heap.size w w1:=by rw[←hw1];exact(Below.refl _ _).alloc (Nat.le_refl _) _
 have HB1:=Lib.hid hb1
 have HW1:=Lib.hid hw1
 have HC:=Lib.hid hC
 have hk1:w1.heap[w.heap.size]? =some (.cells #[.int .i64 k0, .string x1, .int .u64 x2, .slice A ds.length c, .int .u64 x4, .int .u64 x5, .string x6] 62 (0,0)):=by rw[←hw1];exact heap_new _ _
 obtain⟨b1,hbb⟩: ∃b,w.heap.size=b:=⟨_,rfl⟩
 rw[hbb]at hk1
 have HK1:=Lib.hid hk1
 have HBB:=Lib.hid hbb
 clear hk1 hbb
 have d1:decide (v<1)=false:=decide_eq_false (by omega)
 have d2:decide (3<v)=false:=decide_eq_false (by omega)
 subst hk
 clear hC hb1 hw1
 go_enter Try.func63,Try.ntmps63
 go_wp2_with fail
 rw[HW1.out,HBB.out]
 refine(tephraref08_Name.calls x1 _ _ (rname_is x1)).mono ?_
 rintro e w2 ⟨rfl,hd2⟩
 rw[hn]
 have HB2:=Lib.hid (HB1.out.trans (hd2.below.mono HB1.out.size))
 have hk2:=blk_below HK1.out hd2.below
 have HK2:=Lib.hid hk2
 have q0:=(blk_cell hk2 0).trans rfl
 have q1:=(blk_cell hk2 1).trans rfl
 have q2:=(blk_cell hk2 2).trans rfl
 have q3:=(blk_cell hk2 3).trans rfl
 have q4:=(blk_cell hk2 4).trans rfl
 have q5:=(blk_cell hk2 5).trans rfl
 have q6:=(blk_cell hk2 6).trans rfl
 clear hd2 hk2
 have HBD:=Lib.hid hb
 clear hb
 go_wp2_with fail
 all_goals (go_ret;refine⟨?_,HB2.out⟩;first|rfl|exact congrArg (fun b=>Ending.returned (.bool b)) ((tl_empty x6).trans (decide_eq_false (fun h=>HBD.out ⟨by assumption,by rename_i h3 _ _;rw[h3];rfl,by assumption,by assumption,h⟩)))|exact congrArg (fun b=>Ending.returned (.bool b)) (decide_eq_false (fun h=>HBD.out ⟨by assumption,by rename_i h3 _ _;rw[h3];rfl,by assumption,by assumption,bae_iff.1 h⟩)))
set_option maxRecDepth 100000 in
set_option maxHeartbeats 2000000 in
theorem rmay_bad (v k0:Int) (x1:ByteArray) (x2:Int) (ds:List S109) (x4 x5:Int) (x6:ByteArray) (A:Option Addr) (c:Nat) (w:World) (hC:Kd.C k109 w A ds.length ds) (hv:1≤v∧v≤3) (hn:nameB x1=true) (hk:k0≠2) (hb:k0≠1∨16<ds.length∨64<x6.size∨(v=1∧x5≠0)∨(v<3∧x6.size≠0)):
  Calls Try.prog 63 #[.int .i64 v, .agg #[.int .i64 k0, .string x1, .int .u64 x2, .slice A ds.length c, .int .u64 x4, .int .u64 x5, .string x6]] w fun e w'=>e= .returned (.bool false)∧Below w.heap.size w w':=by
 have hm:=hC.2.1
 obtain⟨w1,hw1⟩: ∃w1,w.alloc (.cells #[.int .i64 k0, .string x1, .int .u64 x2, .slice A ds.length c, .int .u64 x4, .int .u64 x5, .string x6] 62)=w1:=⟨_,rfl⟩
 have hb1:Below w.heap.size w w1:=by rw[←hw1];exact(Below.refl _ _).alloc (Nat.le_refl _) _
 have HB1:=Lib.hid hb1
 have HW1:=Lib.hid hw1
 have HC:=Lib.hid hC
 have hk1:w1.heap[w.heap.size]? =some (.cells #[.int .i64 k0, .string x1, .int .u64 x2, .slice A ds.length c, .int .u64 x4, .int .u64 x5, .string x6] 62 (0,0)):=by rw[←hw1];exact heap_new _ _
 obtain⟨b1,hbb⟩: ∃b,w.heap.size=b:=⟨_,rfl⟩
 rw[hbb]at hk1
 have HK1:=Lib.hid hk1
 have HBB:=Lib.hid hbb
 clear hk1 hbb
 have d1:decide (v<1)=false:=decide_eq_false (by omega)
 have d2:decide (3<v)=false:=decide_eq_false (by omega)
 have k2:(k0==2)=false:=by simpa using hk
 clear hC hb1 hw1
 go_enter Try.func63,Try.ntmps63
 go_wp2_with fail
 rw[HW1.out,HBB.out]
 refine(tephraref08_Name.calls x1 _ _ (rname_is x1)).mono ?_
 rintro e w2 ⟨rfl,hd2⟩
 rw[hn]
 have HB2:=Lib.hid (HB1.out.trans (hd2.below.mono HB1.out.size))
 have hk2:=blk_below HK1.out hd2.below
 have HK2:=Lib.hid hk2
 have q0:=(blk_cell hk2 0).trans rfl
 have q1:=(blk_cell hk2 1).trans rfl
 have q2:=(blk_cell hk2 2).trans rfl
 have q3:=(blk_cell hk2 3).trans rfl
 have q4:=(blk_cell hk2 4).trans rfl
 have q5:=(blk_cell hk2 5).trans rfl
 have q6:=(blk_cell hk2 6).trans rfl
 clear hd2 hk2
 have HBD:=Lib.hid hb
 clear hb
 go_wp2_with fail
 all_goals first|(go_ret;exact⟨rfl,HB2.out⟩)|(exfalso;have hbd:=HBD.out;first|omega|(have h:=(Bool.not_eq_false' x6.toList.isEmpty).mp (by assumption);rw[tl_empty,decide_eq_true_eq]at h;omega))
set_option maxRecDepth 100000 in
set_option maxHeartbeats 2000000 in
theorem rmay_1v1  (x1:ByteArray) (x2:Int) (ds:List S109) (x4:Int) (x6:ByteArray) (A:Option Addr) (c:Nat) (w:World) (hC:Kd.C k109 w A ds.length ds) (hn:nameB x1=true) (h16:ds.length≤16) (h64:x6.size≤64) (h6:x6.size=0):
  Calls Try.prog 63 #[.int .i64 1, .agg #[.int .i64 1, .string x1, .int .u64 x2, .slice A ds.length c, .int .u64 x4, .int .u64 0, .string x6]] w fun e w'=>e= .returned (.bool (depsOk 1 [x1] ds))∧Below w.heap.size w w':=by
 have hm:=hC.2.1
 obtain⟨w1,hw1⟩: ∃w1,w.alloc (.cells #[.int .i64 1, .string x1, .int .u64 x2, .slice A ds.length c, .int .u64 x4, .int .u64 0, .string x6] 62)=w1:=⟨_,rfl⟩
 have hb1:Below w.heap.size w w1:=by rw[←hw1];exact(Below.refl _ _).alloc (Nat.le_refl _) _
 have HB1:=Lib.hid hb1
 have HW1:=Lib.hid hw1
 have HC:=Lib.hid hC
 have hk1:w1.heap[w.heap.size]? =some (.cells #[.int .i64 1, .string x1, .int .u64 x2, .slice A ds.length c, .int .u64 x4, .int .u64 0, .string x6] 62 (0,0)):=by rw[←hw1];exact heap_new _ _
 obtain⟨b1,hbb⟩: ∃b,w.heap.size=b:=⟨_,rfl⟩
 rw[hbb]at hk1
 have HK1:=Lib.hid hk1
 have HBB:=Lib.hid hbb
 clear hk1 hbb
 have d16:decide (16<(ds.length:Int))=false:=decide_eq_false (by omega)
 have d64:decide (64<(x6.size:Int))=false:=decide_eq_false (by omega)
 have t6:x6.toList.isEmpty=true:=by rw[tl_empty];exact decide_eq_true h6
 obtain⟨M,hM⟩: ∃M,depsOk 1 [x1] ds=M:=⟨_,rfl⟩
 rw[hM]
 have HM:=Lib.hid hM
 clear hM
 clear hC hb1 hw1
 go_enter Try.func63,Try.ntmps63
 go_wp2_with fail
 rw[HW1.out,HBB.out]
 refine(tephraref08_Name.calls x1 _ _ (rname_is x1)).mono ?_
 rintro e w2 ⟨rfl,hd2⟩
 rw[hn]
 have HB2:=Lib.hid (HB1.out.trans (hd2.below.mono HB1.out.size))
 have hk2:=blk_below HK1.out hd2.below
 have HK2:=Lib.hid hk2
 have q0:=(blk_cell hk2 0).trans rfl
 have q1:=(blk_cell hk2 1).trans rfl
 have q2:=(blk_cell hk2 2).trans rfl
 have q3:=(blk_cell hk2 3).trans rfl
 have q4:=(blk_cell hk2 4).trans rfl
 have q5:=(blk_cell hk2 5).trans rfl
 have q6:=(blk_cell hk2 6).trans rfl
 clear hd2 hk2
 go_wp2_with fail
 go_loopw [5] (fun u wr=>∃(i:Nat),i≤ds.length∧u= .int .i64 (i:Int)∧Hid (Below w2.heap.size w2 wr)∧Hid (depsOk 1 (x1::(ds.take i).map (·.f0)) (ds.drop i)=M)) (fun u _=>ds.length-(intOf u).toNat)
 case atStart=>exact⟨0,by omega,rfl,Lib.hid (Below.refl _ _),Lib.hid HM.out⟩
 case round=>
  clear q0 q1 q2 q3 q4 q5 q6
  obtain⟨i,hi,rfl,HB,HD⟩:=hrel
  have hk2:=blk_below HK2.out HB.out
  have s3:wr.cell? ⟨b1,3,none⟩=some (.slice A ds.length c):=(blk_cell hk2 3).trans rfl
  have HBW:=Lib.hid (HB2.out.trans (HB.out.mono HB2.out.size))
  by_cases hlt:i<ds.length
  ·have hdl:decide ((i:Int)<(ds.length:Int))=true:=decide_eq_true (by omega)
   obtain⟨ad,hA,g0,g1,g2⟩:=at_T109 (Kd.C_below HC.out HBW.out) (i:Int) (by omega) (by omega)
   subst hA
   rw[rd_dep ds i hlt,Int.toNat_natCast]at g0 g1 g2
   have hd:=HD.out
   rw[List.drop_eq_getElem_cons hlt]at hd
   have hnx:=names_take hlt (l:=ds)
   generalize ds[i]=d at g0 g1 g2 hd hnx
   obtain⟨d0,dh,do_⟩:=d
   dsimp only at g0 g1 g2 hnx
   rw[depsOk]at hd
   dsimp only at hd
   have HD2:=Lib.hid hd
   have HNX:=Lib.hid hnx
   clear hd hnx hk2 HD
   obtain⟨wa,hwa⟩: ∃x,wr.alloc (.cells #[.string d0, .int .u64 dh, .bool do_] 109)=x:=⟨_,rfl⟩
   have hba:Below wr.heap.size wr wa:=by rw[←hwa];exact(Below.refl _ _).alloc (Nat.le_refl _) _
   have hka:wa.heap[wr.heap.size]? =some (.cells #[.string d0, .int .u64 dh, .bool do_] 109 (0,0)):=by rw[←hwa];exact heap_new _ _
   obtain⟨b6,hb6⟩: ∃b,wr.heap.size=b:=⟨_,rfl⟩
   rw[hb6]at hka
   have HKA:=Lib.hid hka
   have HBA:=Lib.hid hba
   have HWA:=Lib.hid hwa
   have HB6:=Lib.hid hb6
   clear hba hka hwa hb6
   go_wp2_with fail
   clear g0 g1 g2 s3
   rw[HWA.out,HB6.out]
   refine(tephraref08_Name.calls d0 _ _ (rname_is d0)).mono ?_
   rintro e wb ⟨rfl,hdb⟩
   have hkb:=blk_below HKA.out hdb.below
   have hbb3:Below w2.heap.size w2 wb:=HB.out.trans ((HBA.out.trans (hdb.below.mono HBA.out.size)).mono HB.out.size)
   have HB3:=Lib.hid hbb3
   have HBW3:=Lib.hid (HB2.out.trans (hbb3.mono HB2.out.size))
   have hk3:=blk_below HK2.out hbb3
   have HK3:=Lib.hid hk3
   have HKB:=Lib.hid hkb
   have y0:=(blk_cell hkb 0).trans rfl
   have y2:=(blk_cell hkb 2).trans rfl
   have z1:wb.cell? ⟨b1,1,none⟩=some (.string x1):=(blk_cell hk3 1).trans rfl
   clear hdb hkb hbb3 hk3
   cases hnb:nameB d0 with
   |false=>
    have HZ:=Lib.hid (show false=M by have h:=HD2.out;rw[hnb]at h;simpa using h)
    go_wp2_with fail
    go_ret
    exact⟨by rw[←HZ.out];rfl,HBW3.out⟩
   | true=>
    have hd2:=HD2.out
    rw[hnb]at hd2
    by_cases hx:d0=x1
    ·have HZ:=Lib.hid (show false=M by rw[←hd2,isIn_iff.2 (by rw[hx];simp)];simp)
     subst hx
     clear hd2
     go_wp2_with fail
     go_ret
     exact⟨by rw[←HZ.out];rfl,HBW3.out⟩
    ·have hxe:=xeq_no hx
     have hin:isIn (x1::(ds.take i).map (·.f0)) d0=isIn ((ds.take i).map (·.f0)) d0:=by
      rw[Bool.eq_iff_iff,isIn_iff,isIn_iff,List.mem_cons]
      exact⟨fun h=>h.elim (fun h=>absurd h hx) id, .inr⟩
     rw[hin]at hd2
     obtain⟨hx1,hx2,hx3⟩:=hxe
     have HD3:=Lib.hid hd2
     have HX:=Lib.hid hx
     clear hd2 hin hx
     cases do_ with
     |true=>
      have HZ:=Lib.hid (show false=M by rw[←HD3.out];simp)
      go_wp2_with fail
      go_ret
      exact⟨by rw[←HZ.out];rfl,HBW3.out⟩
     | false=>
      have HD4:=Lib.hid (show(!isIn ((ds.take i).map (·.f0)) d0&&depsOk 1 (x1::(ds.take i).map (·.f0)++[d0]) (ds.drop (i+1)))=M by rw[←HD3.out];simp)
      go_wp2_with fail
      clear y0 y2 z1 hx1 hx2 hx3
      go_loopw [7] (fun u wq=>∃(j:Nat),j≤i∧u= .int .i64 (j:Int)∧Hid (Below wb.heap.size wb wq)∧Hid (d0 ∉ (ds.take j).map (·.f0))) (fun u _=>i-(intOf u).toNat)
      case atStart=>exact⟨0,by omega,rfl,Lib.hid (Below.refl _ _),Lib.hid (by simp)⟩
      case round=>
       obtain⟨j,hj,rfl,HQ,HN⟩:=hrel
       by_cases hji:j<i
       ·have hjl:decide ((j:Int)<(i:Int))=true:=decide_eq_true (by omega)
        obtain⟨ae,hA2,e0,_,_⟩:=at_T109 (Kd.C_below HC.out (HBW3.out.trans (HQ.out.mono HBW3.out.size))) (j:Int) (by omega) (by omega)
        have hA3:=Option.some.inj hA2
        subst hA3
        rw[rd_dep ds j (by omega),Int.toNat_natCast]at e0
        have hnj:=names_take (show j<ds.length by omega) (l:=ds)
        generalize ds[j]'(by omega)=dj at e0 hnj
        obtain⟨f0,fh,fo⟩:=dj
        dsimp only at e0 hnj
        have HNJ:=Lib.hid hnj
        have hkq1:=blk_below HK3.out HQ.out
        have hkq2:=blk_below HKB.out HQ.out
        have y3:wr.cell? ⟨b1,3,none⟩=some (.slice (some ad) ds.length c):=(blk_cell hkq1 3).trans rfl
        have y0:wr.cell? ⟨b6,0,none⟩=some (.string d0):=(blk_cell hkq2 0).trans rfl
        have hjn:j<ds.length:=by omega
        clear hnj hA2 hkq1 hkq2
        by_cases hf:f0=d0
        ·subst hf
         have HZ:=Lib.hid (met_yes HNJ.out (show j+1≤i by omega) HD4.out)
         go_wp2_with fail
         go_quiet (fail)
         go_wp2_with fail
         go_ret
         exact⟨by rw[←HZ.out];rfl,pw_below_drewN (HBW3.out.trans (HQ.out.mono HBW3.out.size)) _⟩
        ·obtain⟨r1,r2,r3⟩:=xeq_no hf
         have HN2:=Lib.hid (met_no HNJ.out HN.out hf)
         go_wp2_with fail
         go_quiet (fail)
         go_wp2_with fail
         go_roundw
         case rel=>exact⟨j+1,by omega,by go_num,Lib.hid (pw_below_drewN HQ.out _),HN2⟩
         case measure=>simp[intOf];omega
       ·obtain rfl:j=i:=by omega
        have HD5:=Lib.hid (show depsOk 1 (x1::(ds.take (j+1)).map (·.f0)) (ds.drop (j+1))=M by
         have h:=HD4.out
         rw[isIn_ne.2 HN.out]at h
         rw[HNX.out]
         simpa using h)
        have HB5:=Lib.hid (HB3.out.trans (HQ.out.mono HB3.out.size))
        go_wp2_with fail
        go_roundw
        case rel=>exact⟨j+1,by omega,by go_num,HB5,HD5⟩
        case measure=>simp[intOf];omega
  ·obtain rfl:i=ds.length:=by omega
   have HZ:=Lib.hid (show true=M by have h:=HD.out;rw[List.drop_length,depsOk]at h;exact h)
   clear hk2
   go_wp2_with fail
   go_ret
   exact⟨by rw[←HZ.out];rfl,HBW.out⟩
set_option maxRecDepth 100000 in
set_option maxHeartbeats 2000000 in
theorem rmay_1v2  (x1:ByteArray) (x2:Int) (ds:List S109) (x4 x5:Int) (x6:ByteArray) (A:Option Addr) (c:Nat) (w:World) (hC:Kd.C k109 w A ds.length ds) (hn:nameB x1=true) (h16:ds.length≤16) (h64:x6.size≤64) (h6:x6.size=0):
  Calls Try.prog 63 #[.int .i64 2, .agg #[.int .i64 1, .string x1, .int .u64 x2, .slice A ds.length c, .int .u64 x4, .int .u64 x5, .string x6]] w fun e w'=>e= .returned (.bool (depsOk 2 [x1] ds))∧Below w.heap.size w w':=by
 have hm:=hC.2.1
 obtain⟨w1,hw1⟩: ∃w1,w.alloc (.cells #[.int .i64 1, .string x1, .int .u64 x2, .slice A ds.length c, .int .u64 x4, .int .u64 x5, .string x6] 62)=w1:=⟨_,rfl⟩
 have hb1:Below w.heap.size w w1:=by rw[←hw1];exact(Below.refl _ _).alloc (Nat.le_refl _) _
 have HB1:=Lib.hid hb1
 have HW1:=Lib.hid hw1
 have HC:=Lib.hid hC
 have hk1:w1.heap[w.heap.size]? =some (.cells #[.int .i64 1, .string x1, .int .u64 x2, .slice A ds.length c, .int .u64 x4, .int .u64 x5, .string x6] 62 (0,0)):=by rw[←hw1];exact heap_new _ _
 obtain⟨b1,hbb⟩: ∃b,w.heap.size=b:=⟨_,rfl⟩
 rw[hbb]at hk1
 have HK1:=Lib.hid hk1
 have HBB:=Lib.hid hbb
 clear hk1 hbb
 have d16:decide (16<(ds.length:Int))=false:=decide_eq_false (by omega)
 have d64:decide (64<(x6.size:Int))=false:=decide_eq_false (by omega)
 have t6:x6.toList.isEmpty=true:=by rw[tl_empty];exact decide_eq_true h6
 obtain⟨M,hM⟩: ∃M,depsOk 2 [x1] ds=M:=⟨_,rfl⟩
 rw[hM]
 have HM:=Lib.hid hM
 clear hM
 clear hC hb1 hw1
 go_enter Try.func63,Try.ntmps63
 go_wp2_with fail
 rw[HW1.out,HBB.out]
 refine(tephraref08_Name.calls x1 _ _ (rname_is x1)).mono ?_
 rintro e w2 ⟨rfl,hd2⟩
 rw[hn]
 have HB2:=Lib.hid (HB1.out.trans (hd2.below.mono HB1.out.size))
 have hk2:=blk_below HK1.out hd2.below
 have HK2:=Lib.hid hk2
 have q0:=(blk_cell hk2 0).trans rfl
 have q1:=(blk_cell hk2 1).trans rfl
 have q2:=(blk_cell hk2 2).trans rfl
 have q3:=(blk_cell hk2 3).trans rfl
 have q4:=(blk_cell hk2 4).trans rfl
 have q5:=(blk_cell hk2 5).trans rfl
 have q6:=(blk_cell hk2 6).trans rfl
 clear hd2 hk2
 go_wp2_with fail
 go_loopw [5] (fun u wr=>∃(i:Nat),i≤ds.length∧u= .int .i64 (i:Int)∧Hid (Below w2.heap.size w2 wr)∧Hid (depsOk 2 (x1::(ds.take i).map (·.f0)) (ds.drop i)=M)) (fun u _=>ds.length-(intOf u).toNat)
 case atStart=>exact⟨0,by omega,rfl,Lib.hid (Below.refl _ _),Lib.hid HM.out⟩
 case round=>
  clear q0 q1 q2 q3 q4 q5 q6
  obtain⟨i,hi,rfl,HB,HD⟩:=hrel
  have hk2:=blk_below HK2.out HB.out
  have s3:wr.cell? ⟨b1,3,none⟩=some (.slice A ds.length c):=(blk_cell hk2 3).trans rfl
  have HBW:=Lib.hid (HB2.out.trans (HB.out.mono HB2.out.size))
  by_cases hlt:i<ds.length
  ·have hdl:decide ((i:Int)<(ds.length:Int))=true:=decide_eq_true (by omega)
   obtain⟨ad,hA,g0,g1,g2⟩:=at_T109 (Kd.C_below HC.out HBW.out) (i:Int) (by omega) (by omega)
   subst hA
   rw[rd_dep ds i hlt,Int.toNat_natCast]at g0 g1 g2
   have hd:=HD.out
   rw[List.drop_eq_getElem_cons hlt]at hd
   have hnx:=names_take hlt (l:=ds)
   generalize ds[i]=d at g0 g1 g2 hd hnx
   obtain⟨d0,dh,do_⟩:=d
   dsimp only at g0 g1 g2 hnx
   rw[depsOk]at hd
   dsimp only at hd
   have HD2:=Lib.hid hd
   have HNX:=Lib.hid hnx
   clear hd hnx hk2 HD
   obtain⟨wa,hwa⟩: ∃x,wr.alloc (.cells #[.string d0, .int .u64 dh, .bool do_] 109)=x:=⟨_,rfl⟩
   have hba:Below wr.heap.size wr wa:=by rw[←hwa];exact(Below.refl _ _).alloc (Nat.le_refl _) _
   have hka:wa.heap[wr.heap.size]? =some (.cells #[.string d0, .int .u64 dh, .bool do_] 109 (0,0)):=by rw[←hwa];exact heap_new _ _
   obtain⟨b6,hb6⟩: ∃b,wr.heap.size=b:=⟨_,rfl⟩
   rw[hb6]at hka
   have HKA:=Lib.hid hka
   have HBA:=Lib.hid hba
   have HWA:=Lib.hid hwa
   have HB6:=Lib.hid hb6
   clear hba hka hwa hb6
   go_wp2_with fail
   clear g0 g1 g2 s3
   rw[HWA.out,HB6.out]
   refine(tephraref08_Name.calls d0 _ _ (rname_is d0)).mono ?_
   rintro e wb ⟨rfl,hdb⟩
   have hkb:=blk_below HKA.out hdb.below
   have hbb3:Below w2.heap.size w2 wb:=HB.out.trans ((HBA.out.trans (hdb.below.mono HBA.out.size)).mono HB.out.size)
   have HB3:=Lib.hid hbb3
   have HBW3:=Lib.hid (HB2.out.trans (hbb3.mono HB2.out.size))
   have hk3:=blk_below HK2.out hbb3
   have HK3:=Lib.hid hk3
   have HKB:=Lib.hid hkb
   have y0:=(blk_cell hkb 0).trans rfl
   have y2:=(blk_cell hkb 2).trans rfl
   have z1:wb.cell? ⟨b1,1,none⟩=some (.string x1):=(blk_cell hk3 1).trans rfl
   clear hdb hkb hbb3 hk3
   cases hnb:nameB d0 with
   |false=>
    have HZ:=Lib.hid (show false=M by have h:=HD2.out;rw[hnb]at h;simpa using h)
    go_wp2_with fail
    go_ret
    exact⟨by rw[←HZ.out];rfl,HBW3.out⟩
   | true=>
    have hd2:=HD2.out
    rw[hnb]at hd2
    by_cases hx:d0=x1
    ·have HZ:=Lib.hid (show false=M by rw[←hd2,isIn_iff.2 (by rw[hx];simp)];simp)
     subst hx
     clear hd2
     go_wp2_with fail
     go_ret
     exact⟨by rw[←HZ.out];rfl,HBW3.out⟩
    ·have hxe:=xeq_no hx
     have hin:isIn (x1::(ds.take i).map (·.f0)) d0=isIn ((ds.take i).map (·.f0)) d0:=by
      rw[Bool.eq_iff_iff,isIn_iff,isIn_iff,List.mem_cons]
      exact⟨fun h=>h.elim (fun h=>absurd h hx) id, .inr⟩
     rw[hin]at hd2
     obtain⟨hx1,hx2,hx3⟩:=hxe
     have HD3:=Lib.hid hd2
     have HX:=Lib.hid hx
     clear hd2 hin hx
     cases do_ with
     |true=>
      have HZ:=Lib.hid (show false=M by rw[←HD3.out];simp)
      go_wp2_with fail
      go_ret
      exact⟨by rw[←HZ.out];rfl,HBW3.out⟩
     | false=>
      have HD4:=Lib.hid (show(!isIn ((ds.take i).map (·.f0)) d0&&depsOk 2 (x1::(ds.take i).map (·.f0)++[d0]) (ds.drop (i+1)))=M by rw[←HD3.out];simp)
      go_wp2_with fail
      clear y0 y2 z1 hx1 hx2 hx3
      go_loopw [7] (fun u wq=>∃(j:Nat),j≤i∧u= .int .i64 (j:Int)∧Hid (Below wb.heap.size wb wq)∧Hid (d0 ∉ (ds.take j).map (·.f0))) (fun u _=>i-(intOf u).toNat)
      case atStart=>exact⟨0,by omega,rfl,Lib.hid (Below.refl _ _),Lib.hid (by simp)⟩
      case round=>
       obtain⟨j,hj,rfl,HQ,HN⟩:=hrel
       by_cases hji:j<i
       ·have hjl:decide ((j:Int)<(i:Int))=true:=decide_eq_true (by omega)
        obtain⟨ae,hA2,e0,_,_⟩:=at_T109 (Kd.C_below HC.out (HBW3.out.trans (HQ.out.mono HBW3.out.size))) (j:Int) (by omega) (by omega)
        have hA3:=Option.some.inj hA2
        subst hA3
        rw[rd_dep ds j (by omega),Int.toNat_natCast]at e0
        have hnj:=names_take (show j<ds.length by omega) (l:=ds)
        generalize ds[j]'(by omega)=dj at e0 hnj
        obtain⟨f0,fh,fo⟩:=dj
        dsimp only at e0 hnj
        have HNJ:=Lib.hid hnj
        have hkq1:=blk_below HK3.out HQ.out
        have hkq2:=blk_below HKB.out HQ.out
        have y3:wr.cell? ⟨b1,3,none⟩=some (.slice (some ad) ds.length c):=(blk_cell hkq1 3).trans rfl
        have y0:wr.cell? ⟨b6,0,none⟩=some (.string d0):=(blk_cell hkq2 0).trans rfl
        have hjn:j<ds.length:=by omega
        clear hnj hA2 hkq1 hkq2
        by_cases hf:f0=d0
        ·subst hf
         have HZ:=Lib.hid (met_yes HNJ.out (show j+1≤i by omega) HD4.out)
         go_wp2_with fail
         go_quiet (fail)
         go_wp2_with fail
         go_ret
         exact⟨by rw[←HZ.out];rfl,pw_below_drewN (HBW3.out.trans (HQ.out.mono HBW3.out.size)) _⟩
        ·obtain⟨r1,r2,r3⟩:=xeq_no hf
         have HN2:=Lib.hid (met_no HNJ.out HN.out hf)
         go_wp2_with fail
         go_quiet (fail)
         go_wp2_with fail
         go_roundw
         case rel=>exact⟨j+1,by omega,by go_num,Lib.hid (pw_below_drewN HQ.out _),HN2⟩
         case measure=>simp[intOf];omega
       ·obtain rfl:j=i:=by omega
        have HD5:=Lib.hid (show depsOk 2 (x1::(ds.take (j+1)).map (·.f0)) (ds.drop (j+1))=M by
         have h:=HD4.out
         rw[isIn_ne.2 HN.out]at h
         rw[HNX.out]
         simpa using h)
        have HB5:=Lib.hid (HB3.out.trans (HQ.out.mono HB3.out.size))
        go_wp2_with fail
        go_roundw
        case rel=>exact⟨j+1,by omega,by go_num,HB5,HD5⟩
        case measure=>simp[intOf];omega
  ·obtain rfl:i=ds.length:=by omega
   have HZ:=Lib.hid (show true=M by have h:=HD.out;rw[List.drop_length,depsOk]at h;exact h)
   clear hk2
   go_wp2_with fail
   go_ret
   exact⟨by rw[←HZ.out];rfl,HBW.out⟩
set_option maxRecDepth 100000 in
set_option maxHeartbeats 2000000 in
theorem rmay_1v3  (x1:ByteArray) (x2:Int) (ds:List S109) (x4 x5:Int) (x6:ByteArray) (A:Option Addr) (c:Nat) (w:World) (hC:Kd.C k109 w A ds.length ds) (hn:nameB x1=true) (h16:ds.length≤16) (h64:x6.size≤64):
  Calls Try.prog 63 #[.int .i64 3, .agg #[.int .i64 1, .string x1, .int .u64 x2, .slice A ds.length c, .int .u64 x4, .int .u64 x5, .string x6]] w fun e w'=>e= .returned (.bool (depsOk 3 [x1] ds))∧Below w.heap.size w w':=by
 have hm:=hC.2.1
 obtain⟨w1,hw1⟩: ∃w1,w.alloc (.cells #[.int .i64 1, .string x1, .int .u64 x2, .slice A ds.length c, .int .u64 x4, .int .u64 x5, .string x6] 62)=w1:=⟨_,rfl⟩
 have hb1:Below w.heap.size w w1:=by rw[←hw1];exact(Below.refl _ _).alloc (Nat.le_refl _) _
 have HB1:=Lib.hid hb1
 have HW1:=Lib.hid hw1
 have HC:=Lib.hid hC
 have hk1:w1.heap[w.heap.size]? =some (.cells #[.int .i64 1, .string x1, .int .u64 x2, .slice A ds.length c, .int .u64 x4, .int .u64 x5, .string x6] 62 (0,0)):=by rw[←hw1];exact heap_new _ _
 obtain⟨b1,hbb⟩: ∃b,w.heap.size=b:=⟨_,rfl⟩
 rw[hbb]at hk1
 have HK1:=Lib.hid hk1
 have HBB:=Lib.hid hbb
 clear hk1 hbb
 have d16:decide (16<(ds.length:Int))=false:=decide_eq_false (by omega)
 have d64:decide (64<(x6.size:Int))=false:=decide_eq_false (by omega)
 obtain⟨M,hM⟩: ∃M,depsOk 3 [x1] ds=M:=⟨_,rfl⟩
 rw[hM]
 have HM:=Lib.hid hM
 clear hM
 clear hC hb1 hw1
 go_enter Try.func63,Try.ntmps63
 go_wp2_with fail
 rw[HW1.out,HBB.out]
 refine(tephraref08_Name.calls x1 _ _ (rname_is x1)).mono ?_
 rintro e w2 ⟨rfl,hd2⟩
 rw[hn]
 have HB2:=Lib.hid (HB1.out.trans (hd2.below.mono HB1.out.size))
 have hk2:=blk_below HK1.out hd2.below
 have HK2:=Lib.hid hk2
 have q0:=(blk_cell hk2 0).trans rfl
 have q1:=(blk_cell hk2 1).trans rfl
 have q2:=(blk_cell hk2 2).trans rfl
 have q3:=(blk_cell hk2 3).trans rfl
 have q4:=(blk_cell hk2 4).trans rfl
 have q5:=(blk_cell hk2 5).trans rfl
 have q6:=(blk_cell hk2 6).trans rfl
 clear hd2 hk2
 go_wp2_with fail
 go_loopw [5] (fun u wr=>∃(i:Nat),i≤ds.length∧u= .int .i64 (i:Int)∧Hid (Below w2.heap.size w2 wr)∧Hid (depsOk 3 (x1::(ds.take i).map (·.f0)) (ds.drop i)=M)) (fun u _=>ds.length-(intOf u).toNat)
 case atStart=>exact⟨0,by omega,rfl,Lib.hid (Below.refl _ _),Lib.hid HM.out⟩
 case round=>
  clear q0 q1 q2 q3 q4 q5 q6
  obtain⟨i,hi,rfl,HB,HD⟩:=hrel
  have hk2:=blk_below HK2.out HB.out
  have s3:wr.cell? ⟨b1,3,none⟩=some (.slice A ds.length c):=(blk_cell hk2 3).trans rfl
  have HBW:=Lib.hid (HB2.out.trans (HB.out.mono HB2.out.size))
  by_cases hlt:i<ds.length
  ·have hdl:decide ((i:Int)<(ds.length:Int))=true:=decide_eq_true (by omega)
   obtain⟨ad,hA,g0,g1,g2⟩:=at_T109 (Kd.C_below HC.out HBW.out) (i:Int) (by omega) (by omega)
   subst hA
   rw[rd_dep ds i hlt,Int.toNat_natCast]at g0 g1 g2
   have hd:=HD.out
   rw[List.drop_eq_getElem_cons hlt]at hd
   have hnx:=names_take hlt (l:=ds)
   generalize ds[i]=d at g0 g1 g2 hd hnx
   obtain⟨d0,dh,do_⟩:=d
   dsimp only at g0 g1 g2 hnx
   rw[depsOk]at hd
   dsimp only at hd
   have HD2:=Lib.hid hd
   have HNX:=Lib.hid hnx
   clear hd hnx hk2 HD
   obtain⟨wa,hwa⟩: ∃x,wr.alloc (.cells #[.string d0, .int .u64 dh, .bool do_] 109)=x:=⟨_,rfl⟩
   have hba:Below wr.heap.size wr wa:=by rw[←hwa];exact(Below.refl _ _).alloc (Nat.le_refl _) _
   have hka:wa.heap[wr.heap.size]? =some (.cells #[.string d0, .int .u64 dh, .bool do_] 109 (0,0)):=by rw[←hwa];exact heap_new _ _
   obtain⟨b6,hb6⟩: ∃b,wr.heap.size=b:=⟨_,rfl⟩
   rw[hb6]at hka
   have HKA:=Lib.hid hka
   have HBA:=Lib.hid hba
   have HWA:=Lib.hid hwa
   have HB6:=Lib.hid hb6
   clear hba hka hwa hb6
   go_wp2_with fail
   clear g0 g1 g2 s3
   rw[HWA.out,HB6.out]
   refine(tephraref08_Name.calls d0 _ _ (rname_is d0)).mono ?_
   rintro e wb ⟨rfl,hdb⟩
   have hkb:=blk_below HKA.out hdb.below
   have hbb3:Below w2.heap.size w2 wb:=HB.out.trans ((HBA.out.trans (hdb.below.mono HBA.out.size)).mono HB.out.size)
   have HB3:=Lib.hid hbb3
   have HBW3:=Lib.hid (HB2.out.trans (hbb3.mono HB2.out.size))
   have hk3:=blk_below HK2.out hbb3
   have HK3:=Lib.hid hk3
   have HKB:=Lib.hid hkb
   have y0:=(blk_cell hkb 0).trans rfl
   have y2:=(blk_cell hkb 2).trans rfl
   have z1:wb.cell? ⟨b1,1,none⟩=some (.string x1):=(blk_cell hk3 1).trans rfl
   clear hdb hkb hbb3 hk3
   cases hnb:nameB d0 with
   |false=>
    have HZ:=Lib.hid (show false=M by have h:=HD2.out;rw[hnb]at h;simpa using h)
    go_wp2_with fail
    go_ret
    exact⟨by rw[←HZ.out];rfl,HBW3.out⟩
   | true=>
    have hd2:=HD2.out
    rw[hnb]at hd2
    by_cases hx:d0=x1
    ·have HZ:=Lib.hid (show false=M by rw[←hd2,isIn_iff.2 (by rw[hx];simp)];simp)
     subst hx
     clear hd2
     go_wp2_with fail
     go_ret
     exact⟨by rw[←HZ.out];rfl,HBW3.out⟩
    ·have hxe:=xeq_no hx
     have hin:isIn (x1::(ds.take i).map (·.f0)) d0=isIn ((ds.take i).map (·.f0)) d0:=by
      rw[Bool.eq_iff_iff,isIn_iff,isIn_iff,List.mem_cons]
      exact⟨fun h=>h.elim (fun h=>absurd h hx) id, .inr⟩
     rw[hin]at hd2
     obtain⟨hx1,hx2,hx3⟩:=hxe
     have HD3:=Lib.hid hd2
     have HX:=Lib.hid hx
     clear hd2 hin hx
     have HD4:=Lib.hid (show(!isIn ((ds.take i).map (·.f0)) d0&&depsOk 3 (x1::(ds.take i).map (·.f0)++[d0]) (ds.drop (i+1)))=M by rw[←HD3.out];simp)
     have HOR:=Lib.hid (show do_=do_ from rfl)
     cases do_ with
     | true=>
      go_wp2_with fail
      clear y0 y2 z1 hx1 hx2 hx3
      go_loopw [7] (fun u wq=>∃(j:Nat),j≤i∧u= .int .i64 (j:Int)∧Hid (Below wb.heap.size wb wq)∧Hid (d0 ∉ (ds.take j).map (·.f0))) (fun u _=>i-(intOf u).toNat)
      case atStart=>exact⟨0,by omega,rfl,Lib.hid (Below.refl _ _),Lib.hid (by simp)⟩
      case round=>
       obtain⟨j,hj,rfl,HQ,HN⟩:=hrel
       by_cases hji:j<i
       ·have hjl:decide ((j:Int)<(i:Int))=true:=decide_eq_true (by omega)
        obtain⟨ae,hA2,e0,_,_⟩:=at_T109 (Kd.C_below HC.out (HBW3.out.trans (HQ.out.mono HBW3.out.size))) (j:Int) (by omega) (by omega)
        have hA3:=Option.some.inj hA2
        subst hA3
        rw[rd_dep ds j (by omega),Int.toNat_natCast]at e0
        have hnj:=names_take (show j<ds.length by omega) (l:=ds)
        generalize ds[j]'(by omega)=dj at e0 hnj
        obtain⟨f0,fh,fo⟩:=dj
        dsimp only at e0 hnj
        have HNJ:=Lib.hid hnj
        have hkq1:=blk_below HK3.out HQ.out
        have hkq2:=blk_below HKB.out HQ.out
        have y3:wr.cell? ⟨b1,3,none⟩=some (.slice (some ad) ds.length c):=(blk_cell hkq1 3).trans rfl
        have y0:wr.cell? ⟨b6,0,none⟩=some (.string d0):=(blk_cell hkq2 0).trans rfl
        have hjn:j<ds.length:=by omega
        clear hnj hA2 hkq1 hkq2
        by_cases hf:f0=d0
        ·subst hf
         have HZ:=Lib.hid (met_yes HNJ.out (show j+1≤i by omega) HD4.out)
         go_wp2_with fail
         go_quiet (fail)
         go_wp2_with fail
         go_ret
         exact⟨by rw[←HZ.out];rfl,pw_below_drewN (HBW3.out.trans (HQ.out.mono HBW3.out.size)) _⟩
        ·obtain⟨r1,r2,r3⟩:=xeq_no hf
         have HN2:=Lib.hid (met_no HNJ.out HN.out hf)
         go_wp2_with fail
         go_quiet (fail)
         go_wp2_with fail
         go_roundw
         case rel=>exact⟨j+1,by omega,by go_num,Lib.hid (pw_below_drewN HQ.out _),HN2⟩
         case measure=>simp[intOf];omega
       ·obtain rfl:j=i:=by omega
        have HD5:=Lib.hid (show depsOk 3 (x1::(ds.take (j+1)).map (·.f0)) (ds.drop (j+1))=M by
         have h:=HD4.out
         rw[isIn_ne.2 HN.out]at h
         rw[HNX.out]
         simpa using h)
        have HB5:=Lib.hid (HB3.out.trans (HQ.out.mono HB3.out.size))
        go_wp2_with fail
        go_roundw
        case rel=>exact⟨j+1,by omega,by go_num,HB5,HD5⟩
        case measure=>simp[intOf];omega
     | false=>
      go_wp2_with fail
      clear y0 y2 z1 hx1 hx2 hx3
      go_loopw [7] (fun u wq=>∃(j:Nat),j≤i∧u= .int .i64 (j:Int)∧Hid (Below wb.heap.size wb wq)∧Hid (d0 ∉ (ds.take j).map (·.f0))) (fun u _=>i-(intOf u).toNat)
      case atStart=>exact⟨0,by omega,rfl,Lib.hid (Below.refl _ _),Lib.hid (by simp)⟩
      case round=>
       obtain⟨j,hj,rfl,HQ,HN⟩:=hrel
       by_cases hji:j<i
       ·have hjl:decide ((j:Int)<(i:Int))=true:=decide_eq_true (by omega)
        obtain⟨ae,hA2,e0,_,_⟩:=at_T109 (Kd.C_below HC.out (HBW3.out.trans (HQ.out.mono HBW3.out.size))) (j:Int) (by omega) (by omega)
        have hA3:=Option.some.inj hA2
        subst hA3
        rw[rd_dep ds j (by omega),Int.toNat_natCast]at e0
        have hnj:=names_take (show j<ds.length by omega) (l:=ds)
        generalize ds[j]'(by omega)=dj at e0 hnj
        obtain⟨f0,fh,fo⟩:=dj
        dsimp only at e0 hnj
        have HNJ:=Lib.hid hnj
        have hkq1:=blk_below HK3.out HQ.out
        have hkq2:=blk_below HKB.out HQ.out
        have y3:wr.cell? ⟨b1,3,none⟩=some (.slice (some ad) ds.length c):=(blk_cell hkq1 3).trans rfl
        have y0:wr.cell? ⟨b6,0,none⟩=some (.string d0):=(blk_cell hkq2 0).trans rfl
        have hjn:j<ds.length:=by omega
        clear hnj hA2 hkq1 hkq2
        by_cases hf:f0=d0
        ·subst hf
         have HZ:=Lib.hid (met_yes HNJ.out (show j+1≤i by omega) HD4.out)
         go_wp2_with fail
         go_quiet (fail)
         go_wp2_with fail
         go_ret
         exact⟨by rw[←HZ.out];rfl,pw_below_drewN (HBW3.out.trans (HQ.out.mono HBW3.out.size)) _⟩
        ·obtain⟨r1,r2,r3⟩:=xeq_no hf
         have HN2:=Lib.hid (met_no HNJ.out HN.out hf)
         go_wp2_with fail
         go_quiet (fail)
         go_wp2_with fail
         go_roundw
         case rel=>exact⟨j+1,by omega,by go_num,Lib.hid (pw_below_drewN HQ.out _),HN2⟩
         case measure=>simp[intOf];omega
       ·obtain rfl:j=i:=by omega
        have HD5:=Lib.hid (show depsOk 3 (x1::(ds.take (j+1)).map (·.f0)) (ds.drop (j+1))=M by
         have h:=HD4.out
         rw[isIn_ne.2 HN.out]at h
         rw[HNX.out]
         simpa using h)
        have HB5:=Lib.hid (HB3.out.trans (HQ.out.mono HB3.out.size))
        go_wp2_with fail
        go_roundw
        case rel=>exact⟨j+1,by omega,by go_num,HB5,HD5⟩
        case measure=>simp[intOf];omega
  ·obtain rfl:i=ds.length:=by omega
   have HZ:=Lib.hid (show true=M by have h:=HD.out;rw[List.drop_length,depsOk]at h;exact h)
   clear hk2
   go_wp2_with fail
   go_ret
   exact⟨by rw[←HZ.out];rfl,HBW.out⟩
set_option maxRecDepth 100000 in
set_option maxHeartbeats 2000000 in
theorem rmay_any (v k0:Int) (x1:ByteArray) (x2:Int) (ds:List S109) (x4 x5:Int) (x6:ByteArray) (A:Option Addr) (c:Nat) (w:World) (hC:Kd.C k109 w A ds.length ds):
  Calls Try.prog 63 #[.int .i64 v, .agg #[.int .i64 k0, .string x1, .int .u64 x2, .slice A ds.length c, .int .u64 x4, .int .u64 x5, .string x6]] w fun e w'=>e= .returned (.bool (mayB v k0 x1 x2 ds x4 x5 x6))∧Below w.heap.size w w':=by
 by_cases hv:1≤v∧v≤3
 ·by_cases hn:nameB x1=true
  ·by_cases hk:k0=2
   ·have e:mayB v k0 x1 x2 ds x4 x5 x6=decide (x2=0∧ds.length=0∧x4=0∧x5=0∧x6.size=0):=by
     unfold mayB
     rw[hn,decide_eq_true hv,if_neg (by omega),decide_eq_true hk,Bool.eq_iff_iff]
     simp only[Bool.and_eq_true,decide_eq_true_eq,true_and,and_assoc]
    rw[e]
    by_cases hb:x2=0∧ds.length=0∧x4=0∧x5=0∧x6.size=0
    ·rw[decide_eq_true hb];exact rmay_2t v k0 x1 x2 ds x4 x5 x6 A c w hC hv hn hk hb
    ·rw[decide_eq_false hb];exact rmay_2f v k0 x1 x2 ds x4 x5 x6 A c w hC hv hn hk hb
   ·by_cases hb:k0≠1∨16<ds.length∨64<x6.size∨(v=1∧x5≠0)∨(v<3∧x6.size≠0)
    ·have e:mayB v k0 x1 x2 ds x4 x5 x6=false:=by
      rw[Bool.eq_false_iff]
      intro h
      have M:=may_facts h
      have h1:=M.k
      have h2:=M.n
      have h3:=M.tag
      have h4:=M.w
      omega
     rw[e]
     exact rmay_bad v k0 x1 x2 ds x4 x5 x6 A c w hC hv hn hk hb
    ·have e:mayB v k0 x1 x2 ds x4 x5 x6=depsOk v [x1] ds:=by
      have h1:k0=1:=by omega
      unfold mayB depsB
      rw[hn,decide_eq_true hv,if_pos h1,decide_eq_true (show x6.size≤64 by omega),decide_eq_true (show(ds.length:Int)≤16 by omega)]
      have h2:(decide (v<2)&&decide (x5≠0)||decide (v<3)&&decide (x6.size≠0))=false:=by
       rw[Bool.eq_false_iff]
       intro h
       simp only[Bool.or_eq_true,Bool.and_eq_true,decide_eq_true_eq]at h
       omega
      rw[h2]
      simp
     rw[e]
     have hk1:k0=1:=by omega
     have hv3:v=1∨v=2∨v=3:=by omega
     subst hk1
     rcases hv3 with rfl|rfl|rfl
     ·have h5:x5=0:=by omega
      subst h5
      exact rmay_1v1 x1 x2 ds x4 x6 A c w hC hn (by omega) (by omega) (by omega)
     ·exact rmay_1v2 x1 x2 ds x4 x5 x6 A c w hC hn (by omega) (by omega) (by omega)
     ·exact rmay_1v3 x1 x2 ds x4 x5 x6 A c w hC hn (by omega) (by omega)
  ·have hn':=Bool.eq_false_iff.2 hn
   have e:mayB v k0 x1 x2 ds x4 x5 x6=false:=by unfold mayB;rw[hn'];simp
   rw[e]
   exact rmay_n v k0 x1 x2 ds x4 x5 x6 A c w hC hv hn'
 ·have e:mayB v k0 x1 x2 ds x4 x5 x6=false:=by unfold mayB;rw[decide_eq_false hv];simp
  rw[e]
  exact rmay_v v k0 x1 x2 ds x4 x5 x6 A c w hC hv
def RPutPost (W:World) (A:Option Addr) (c:Nat) (T:List ByteArray) (F:List (List Int)×List ByteArray×Int) (e:Ending) (W':World):Prop:=
 ∃v1 A' c',e= .returned (.tuple #[v1, .slice A' F.2.1.length c', .int .i64 F.2.2])∧Kd.R Kd.string 9 W' W.heap.size (fun _=>True) v1 (F.1.map strOfNums)∧F.2.1.length≤c'∧Kd.C Kd.string W' A' F.2.1.length F.2.1∧Below W.heap.size W W'∧((A'=A∧c'=c∧F.2.1=T)∨Kd.R Kd.string 9 W' W.heap.size (fun _=>True) (.slice A' F.2.1.length c') F.2.1)
theorem add_str (a b:List Int) (h:a.length+b.length≤1000000) (W:World):(Op.stringOp .add (strOfNums a) (strOfNums b)).run Try.prog W= .ok (.string (strOfNums (a++b))) W:=by
 rw[strOfNums_app]
 exact run_string_add_sum W _ _ (by rw[strOfNums_size,strOfNums_size];omega)
theorem add_def (s:ByteArray) (h:s.size≤1000000) (W:World):(Op.stringOp .add ⟨#[0]⟩ s).run Try.prog W= .ok (.string (strOfNums (defE s))) W:=by
 have e:strOfNums (defE s)=⟨#[0]⟩++s:=by
  unfold defE
  rw[show(0::bytesOf s)=[0]++bytesOf s from rfl,strOfNums_app,bytes_str]
  rfl
 rw[e]
 exact run_string_add_sum W _ _ (by show 1+s.size≤_;omega)
theorem put1_any (n:Int) (h:0≤n∧n<18446744073709551616) (W:World):Calls Try.prog 67 #[.int .u64 n] W fun e w'=>e= .returned (.string (strOfNums (ints (vb n.toNat))))∧Below W.heap.size W w':=by
 have:=refput_any n.toNat (by omega) W
 rwa [Int.toNat_of_nonneg h.1]at this
structure RPSt (W X:World) (b5:Nat) (rec:Array Value) (A:Option Addr) (c:Nat) (T:List ByteArray) (tv:Value) (L:List ByteArray) (ov:Value) (rows:List (List Int)) (nv:Value) (ns:List ByteArray):Prop where
 bl:Below W.heap.size W X
 box:X.heap[b5]? =some (.cells rec 62 (0,0))
 ini:Kd.C Kd.string W A T.length T∧T.length≤c
 tb:(L=T∧tv= .slice A T.length c)∨Kd.R Kd.string 9 X W.heap.size (fun k=>some k≠ov.ownBlock) tv L
 rw:Kd.R Kd.string 9 X W.heap.size (fun _=>True) ov (rows.map strOfNums)
 nm:Kd.R Kd.string 9 X W.heap.size (fun k=>some k≠ov.ownBlock) nv ns
section
variable {W X X':World} {b5:Nat} {rec:Array Value} {A:Option Addr} {c:Nat} {T:List ByteArray} {tv:Value} {L:List ByteArray} {ov:Value} {rows:List (List Int)} {nv:Value} {ns:List ByteArray}
theorem RPSt.tab (h:RPSt W X b5 rec A c T tv L ov rows nv ns): ∃A' c',tv= .slice A' L.length c'∧L.length≤c'∧Kd.C Kd.string X A' L.length L:=by
 rcases h.tb with⟨rfl,e⟩|hR
 ·exact⟨A,c,e,h.ini.2,Kd.C_below h.ini.1 h.bl⟩
 ·obtain⟨A',c',e,h1,h2⟩:=Kd.R_reads hR
  exact⟨A',c',e,h1,h2⟩
theorem RPSt.below (h:RPSt W X b5 rec A c T tv L ov rows nv ns) (hb:Below X.heap.size X X'):RPSt W X' b5 rec A c T tv L ov rows nv ns:=
 ⟨h.bl.trans (hb.mono h.bl.size),blk_below h.box hb,h.ini,h.tb.imp id (fun hR=>Kd.R_below hR hb),Kd.R_below h.rw hb,Kd.R_below h.nm hb⟩
theorem RPSt.pushed {ov':Value} {rows':List (List Int)} (h:RPSt W X b5 rec A c T tv L ov rows nv ns) (hR:Kd.R Kd.string 9 X' W.heap.size (fun _=>True) ov' (rows'.map strOfNums)) (hB:Below W.heap.size W X') (hg:X.grownBy X' ov.ownBlock) (hat:ov'.ownBlock=ov.ownBlock∨∃b,ov'.ownBlock=some b∧X.heap.size≤b):RPSt W X' b5 rec A c T tv L ov' rows' nv ns:=by
 have keep: ∀{v:Value} {xs:List ByteArray},Kd.R Kd.string 9 X W.heap.size (fun k=>some k≠ov.ownBlock) v xs→Kd.R Kd.string 9 X' W.heap.size (fun k=>some k≠ov'.ownBlock) v xs:=fun hT=>by
  refine Kd.R_mono (Kd.R_grown (Kd.R_bound hT) hg (fun k hk=>hk.1)) (fun k hk e=> ?_)
  rcases hat with hat|⟨b,hb,hle⟩
  ·rw[hat]at e;exact hk.1 e
  ·rw[hb]at e
   injection e with e
   have:=hk.2.2.1
   omega
 refine⟨hB,(hg.block b5 (blk_lt h.box) (fun e=> ?_)).trans h.box,h.ini,h.tb.imp id (fun hT=>keep hT),hR,keep h.nm⟩
 ·obtain⟨_,_,C,hC⟩:=own_typed_R h.rw b5 e.symm
  rw[h.box]at hC
  injection hC with hC
  injection hC with _ hC
  exact absurd hC (by decide)
theorem RPSt.tabled {tv':Value} {L':List ByteArray} (h:RPSt W X b5 rec A c T tv L ov rows nv ns) (hb:Below X.heap.size X X') (hR:Kd.R Kd.string 9 X' X.heap.size (fun _=>True) tv' L'):RPSt W X' b5 rec A c T tv' L' ov rows nv ns:=
 ⟨h.bl.trans (hb.mono h.bl.size),blk_below h.box hb,h.ini, .inr (Kd.R_mono (Kd.R_lower (Kd.R_bound hR) h.bl.size) (fun k hk e=>by have:=(own_typed_R h.rw k e.symm).2.1;have:=hk.2.1;omega)),Kd.R_below h.rw hb,Kd.R_below h.nm hb⟩
end
set_option maxHeartbeats 8000000 in
set_option maxRecDepth 100000 in
theorem rput9_1 (Wq:World) (v:Int) (A2:Option Addr) (c2:Nat) (T2:List ByteArray) (hC:Kd.C Kd.string Wq A2 T2.length T2) (hc:T2.length≤c2) (hT:T2.length≤100000) (k0:Int) (x1:ByteArray) (x2:Int) (B:Option Addr) (d:Nat) (l:List S109) (x4 x5:Int) (x6:ByteArray)
  (hrow:Kd.C k109 Wq B l.length l) (hd:l.length≤d) (hok:RecOk x1 l x6) (hv:v=1) (hm:mayB v k0 x1 x2 l x4 x5 x6=true) (h2:0≤x2∧x2<18446744073709551616) (h4:0≤x4∧x4<18446744073709551616) (h5:0≤x5∧x5<18446744073709551616) (hdr: ∀y∈l,0≤y.f1∧y.f1<18446744073709551616):
  Calls Try.prog 32 #[.int .i64 v, .slice A2 T2.length c2, .agg #[.int .i64 k0, .string x1, .int .u64 x2, .slice B l.length d, .int .u64 x4, .int .u64 x5, .string x6]] Wq (RPutPost Wq A2 c2 T2 (putF v T2 k0 x1 x2 l x4 x5 x6)):=by
 have hpf:putF v T2 k0 x1 x2 l x4 x5 x6=((moreE T2 T2)++[lastE v T2 k0 x1 x2 l x4 x5 x6],T2,0):=by
  unfold putF
  rw[if_pos (show 1≤v∧v≤3 by omega),if_pos hm]
  rw[if_neg (show ¬1<v by omega)]
 rw[hpf]
 obtain⟨wz,hwz⟩: ∃wz,(Wq.alloc (.cells #[.int .i64 k0, .string x1, .int .u64 x2, .slice B l.length d, .int .u64 x4, .int .u64 x5, .string x6] 62)).alloc (.cells #[] 9)=wz:=⟨_,rfl⟩
 have hbz:Below Wq.heap.size Wq wz:=by rw[←hwz];exact((Below.refl _ _).alloc (Nat.le_refl _) _).alloc (by rw[heap_size_alloc];omega) _
 have hkz:wz.heap[Wq.heap.size]? =some (.cells #[.int .i64 k0, .string x1, .int .u64 x2, .slice B l.length d, .int .u64 x4, .int .u64 x5, .string x6] 62 (0,0)):=by rw[←hwz,heap_new_old _ _ _ (by rw[heap_size_alloc];omega)];exact heap_new _ _
 have hke:wz.heap[Wq.heap.size+1]? =some (.cells #[] 9 (0,0)):=by rw[←hwz];exact heap_new2 _ _ _
 obtain⟨b5,hb5⟩: ∃b,Wq.heap.size=b:=⟨_,rfl⟩
 rw[hb5]at hkz hke
 have hre:=R_empty Kd.string wz Wq.heap.size (b5+1) 9 (fun _=>True) hke (by omega) trivial
 have M:=may_facts hm
 have HMY:=Lib.hid (rmay_any v k0 x1 x2 l x4 x5 x6 B d wz (Kd.C_below hrow hbz))
 rw[hm]at HMY
 have HC:=Lib.hid hC
 have HRO:=Lib.hid hrow
 have HBZ:=Lib.hid hbz
 have HKZ:=Lib.hid hkz
 have HWZ:=Lib.hid hwz
 have HREZ:=Lib.hid hre
 have HB5:=Lib.hid hb5
 have HM:=Lib.hid M
 have HR2:=Lib.hid h2
 have HR4:=Lib.hid h4
 have HR5:=Lib.hid h5
 have HDR:=Lib.hid hdr
 have HV:=Lib.hid hv
 have HKW:=Lib.hid (show IntKind.u64.wrap k0=k0 by have:=M.k;rw[IntKind.wrap_u64];omega)
 have HLW:=Lib.hid (show IntKind.u64.wrap (l.length:Int)=(l.length:Int)by have:=M.n;rw[IntKind.wrap_u64];omega)
 have hln:l.length≤16:=M.n
 have d1:decide (v<1)=false:=decide_eq_false (by omega)
 have d3:decide (3<v)=false:=decide_eq_false (by omega)
 have d2:decide (1<v)=false:=decide_eq_false (by omega)
 have d4:decide (v<3)=true:=decide_eq_true (by omega)
 have d5:decide (2<v)=false:=decide_eq_false (by omega)
 clear hpf hC hrow hbz hkz hke hre hwz hb5 M h2 h4 h5 hdr hm hv hok
 go_enter Try.func32,Try.ntmps32
 go_wp2_with fail
 rw[HWZ.out,HB5.out]
 refine HMY.out.mono ?_
 rintro e wa ⟨rfl,hb⟩
 have HBA:=Lib.hid (HBZ.out.trans (hb.mono HBZ.out.size))
 have HBX:=Lib.hid (blk_below HKZ.out hb)
 have HRE:=Lib.hid (Kd.R_below HREZ.out hb)
 clear hb HREZ HWZ HKZ
 obtain⟨y0,y1,y2,y3,y4,y5,y6⟩:=facts7 HBX.out
 have hst:RPSt Wq wa b5 #[.int .i64 k0, .string x1, .int .u64 x2, .slice B l.length d, .int .u64 x4, .int .u64 x5, .string x6] A2 c2 T2 (.slice A2 T2.length c2) T2 (.slice (some ⟨b5+1,0,none⟩) 0 0) [] (.slice none 0 0) []:=⟨HBA.out,HBX.out,⟨HC.out,hc⟩, .inl ⟨rfl,rfl⟩,HRE.out,Kd.R_nil _ _ _ _ _⟩
 have H:=Lib.hid hst
 have hin:v≠1→∀s∈namesL x1 l x6,s∈T2:=fun h=>absurd HV.out h
 have hrl:([]:List (List Int)).length≤100:=by simp
 clear hst HRE HBA HBX y1 y2 y3 y4 y5 y6 y0
 obtain⟨A2',c2',e2,hc2,hC2⟩:=H.out.tab
 obtain⟨rfl,_,rfl⟩:A2=A2'∧T2.length=T2.length∧c2=c2':=by injection e2 with a1 a2 a3;exact⟨a1,a2,a3⟩
 have HC2:=Lib.hid hC2
 have HRW:=Lib.hid hrl
 have HRL:=Lib.hid hrl
 have HIN:=Lib.hid hin
 obtain⟨q0,hq0⟩: ∃q,ints (vb k0.toNat)=q:=⟨_,rfl⟩
 obtain⟨q1,hq1⟩: ∃q,textE v T2 x1=q:=⟨_,rfl⟩
 obtain⟨q2,hq2⟩: ∃q,ints (vb x2.toNat)=q:=⟨_,rfl⟩
 obtain⟨q3,hq3⟩: ∃q,ints (vb ((l.length:Int)).toNat)=q:=⟨_,rfl⟩
 have hK:=HM.out.k
 have l0:q0.length≤10:=by rw[←hq0];exact vbI_len k0 (by omega)
 have l1:q1.length≤74:=by rw[←hq1];exact textE_len v T2 (by omega) x1 HM.out.t.2
 have l2:q2.length≤10:=by rw[←hq2];exact vbI_len x2 HR2.out.2
 have l3:q3.length≤10:=by rw[←hq3];exact vbI_len (l.length:Int) (by omega)
 have HQ0:=Lib.hid (fun(W':World)=>put1_any k0 (by omega) W')
 have HQ1:=Lib.hid (fun(W':World) (hb:Below wa.heap.size wa W')=>rtext9_any v A2 c2 T2 x1 W' (Kd.C_below HC2.out hb) hc2 (by omega) (by have:=HM.out.t.2;omega) (fun h=>hin h x1 (by unfold namesL;simp)))
 have HQ2:=Lib.hid (fun(W':World)=>put1_any x2 HR2.out W')
 have HQ3:=Lib.hid (fun(W':World)=>put1_any (l.length:Int) (by omega) W')
 rw[hq0]at HQ0
 rw[hq1]at HQ1
 rw[hq2]at HQ2
 rw[hq3]at HQ3
 have HAD:=Lib.hid (add_str q0 q1 (by omega))
 obtain⟨p0,hp0⟩: ∃p,q0++q1=p:=⟨_,rfl⟩
 have lp0:p0.length≤84:=by rw[←hp0,List.length_append];omega
 have HAD2:=Lib.hid (add_str p0 q2 (by omega))
 have HAD3:=Lib.hid (add_str (p0++q2) q3 (by rw[List.length_append];omega))
 obtain⟨P,hP⟩: ∃p,p0++q2++q3=p:=⟨_,rfl⟩
 have lP:P.length≤104:=by rw[←hP,List.length_append,List.length_append];omega
 have HQE:=Lib.hid (And.intro hq0 (And.intro hq1 (And.intro hq2 hq3)))
 have HP0:=Lib.hid hp0
 have HPP:=Lib.hid hP
 have HBX:=Lib.hid H.out.box
 have HKK:=Lib.hid hK
 clear hC2 hq0 hq1 hq2 hq3 hp0 hP hin hK
 go_wp2_with fail
 refine region_calm (n:=11) (byList [isV (.pointer (some ⟨b5,0,none⟩)),isV (.int .i64 k0),isV (.int .u64 k0),isV (.string (strOfNums q0)),isV (.int .i64 v),isV (.slice A2 T2.length c2),isV (.pointer (some ⟨b5,1,none⟩)),isV (.string x1),isV (.string (strOfNums q1)),isV (.string (strOfNums (q0++q1))),isV (.string (strOfNums (q0++q1)))]) (by kernel_rfl) rfl (byList_lasts ?_) (by kernel_rfl) (by kernel_rfl) (by kernel_rfl) (show AllLt 11 _ from ?_) ?_
 ·intro p hp
  simp only[List.mem_cons,List.not_mem_nil,or_false]at hp
  rcases hp with rfl|rfl|rfl|rfl|rfl|rfl|rfl|rfl|rfl|rfl|rfl<;>first|exact isV_lasts|exact isC_lasts
 ·refine allLt_succ (allLt_succ (allLt_succ (allLt_succ (allLt_succ (allLt_succ (allLt_succ (allLt_succ (allLt_succ (allLt_succ (allLt_succ (allLt_zero _) ?_) ?_) ?_) ?_) ?_) ?_) ?_) ?_) ?_) ?_) ?_
  ·refine StepOk.run (get_lit rfl) rfl fun a W hS hB hd=> ?_
   have e5:=hS.get (t:=5) rfl rfl
   refine wp_value (c:= .pointer (some ⟨b5,0,none⟩)) ?_ rfl
   go_simp
  ·refine StepOk.run (get_lit rfl) rfl fun a W hS hB hd=> ?_
   have e62:=(hd 0 rfl).bool rfl rfl rfl
   refine wp_value (c:= .int .i64 k0) ?_ rfl
   have hx:=blk_below HBX.out hB
   have hcW:W.cell? ⟨b5,0,none⟩=some (.int .i64 k0):=(blk_cell hx 0).trans rfl
   go_simp
  ·refine StepOk.run (get_lit rfl) rfl fun a W hS hB hd=> ?_
   have e63:=(hd 1 rfl).bool rfl rfl rfl
   refine wp_value (c:= .int .u64 k0) ?_ rfl
   have hw:=HKW.out
   go_simp
  ·refine StepOk.run (get_lit rfl) rfl fun a W hS hB hd=> ?_
   have e64:=(hd 2 rfl).bool rfl rfl rfl
   refine wp_called Try.func67 (by kernel_rfl) rfl #[.int .u64 k0] rfl (by simp[Act.eval, *]) ?_
   refine(HQ0.out W).mono ?_
   rintro e w9 ⟨rfl,hb9⟩
   exact⟨_,rfl,rfl,hb9⟩
  ·refine StepOk.run (get_lit rfl) rfl fun a W hS hB hd=> ?_
   have e0:=hS.get (t:=0) rfl rfl
   refine wp_value (c:= .int .i64 v) ?_ rfl
   go_simp
  ·refine StepOk.run (get_lit rfl) rfl fun a W hS hB hd=> ?_
   have e1:=hS.get (t:=1) rfl rfl
   refine wp_value (c:= .slice A2 T2.length c2) ?_ rfl
   go_simp
  ·refine StepOk.run (get_lit rfl) rfl fun a W hS hB hd=> ?_
   have e5:=hS.get (t:=5) rfl rfl
   refine wp_value (c:= .pointer (some ⟨b5,1,none⟩)) ?_ rfl
   go_simp
  ·refine StepOk.run (get_lit rfl) rfl fun a W hS hB hd=> ?_
   have e68:=(hd 6 rfl).bool rfl rfl rfl
   refine wp_value (c:= .string x1) ?_ rfl
   have hx:=blk_below HBX.out hB
   have hcW:W.cell? ⟨b5,1,none⟩=some (.string x1):=(blk_cell hx 1).trans rfl
   go_simp
  ·refine StepOk.run (get_lit rfl) rfl fun a W hS hB hd=> ?_
   have e66:=(hd 4 rfl).bool rfl rfl rfl
   have e67:=(hd 5 rfl).bool rfl rfl rfl
   have e69:=(hd 7 rfl).bool rfl rfl rfl
   refine wp_called Try.func68 (by kernel_rfl) rfl #[.int .i64 v, .slice A2 T2.length c2, .string x1] rfl (by simp[Act.eval, *]) ?_
   refine(HQ1.out W hB).mono ?_
   rintro e w9 ⟨rfl,hb9⟩
   exact⟨_,rfl,rfl,hb9⟩
  ·refine StepOk.run (get_lit rfl) rfl fun a W hS hB hd=> ?_
   have e65:=(hd 3 rfl).bool rfl rfl rfl
   have e70:=(hd 8 rfl).bool rfl rfl rfl
   refine wp_value (c:= .string (strOfNums (q0++q1))) ?_ rfl
   have hadd:=HAD.out W
   go_simp
  ·refine StepOk.run (get_lit rfl) rfl fun a W hS hB hd=> ?_
   have e71:=(hd 9 rfl).bool rfl rfl rfl
   refine wp_value (c:= .string (strOfNums (q0++q1))) ?_ rfl
   go_simp
 ·intro a W hS hB hh
  have e12:a.tmps[12]? =some (.string (strOfNums (q0++q1))):=(hh 10 (by omega)).bool rfl rfl rfl
  have HBR:=Lib.hid hB
  obtain⟨zz,hlit,hzz⟩:=same_litz hS
  clear hh hS hB
  simp only[List.filterMap_cons,List.filterMap_nil,List.foldl_cons,List.foldl_nil,List.setIfInBounds_toArray,List.set_cons_zero,List.set_cons_succ]at hlit
  rw[hzz 12 _ e12]at hlit
  clear e12
  clear hzz;subst hlit
  have HX:=Lib.hid (H.out.below HBR.out)
  rw[HP0.out]
  clear HBX HQ0 HQ1 HAD H
  have HBX:=Lib.hid HX.out.box
  rcases HKK.out with hk|hk
  ·have hkd:(k0==1)=true:=by rw[hk];rfl
   have hkd2:decide (k0=1)=true:=decide_eq_true hk
   have hkn: ¬k0=2:=by omega
   have HKN:=Lib.hid (And.intro hk hkn)
   clear hk hkn
   have y0:(W).cell? ⟨b5,0,none⟩=some (.int .i64 k0):=(blk_cell HBX.out 0).trans rfl
   go_wp2_with fail
   clear y0
   refine region_calm2 (n:=12) (byList [isV (.string (strOfNums p0)),isV (.pointer (some ⟨b5,2,none⟩)),isV (.int .u64 x2),isV (.string (strOfNums q2)),isV (.string (strOfNums (p0++q2))),isV (.pointer (some ⟨b5,3,none⟩)),isV (.slice B l.length d),isV (.int .i64 (l.length:Int)),isV (.int .u64 (l.length:Int)),isV (.string (strOfNums q3)),isV (.string (strOfNums (p0++q2++q3))),isV (.string (strOfNums (p0++q2++q3)))]) (by kernel_rfl) rfl (byList_lasts ?_) (by kernel_rfl) (by kernel_rfl) (by kernel_rfl) (show AllLt 12 _ from ?_) ?_
   ·intro p hp
    simp only[List.mem_cons,List.not_mem_nil,or_false]at hp
    rcases hp with rfl|rfl|rfl|rfl|rfl|rfl|rfl|rfl|rfl|rfl|rfl|rfl<;>first|exact isV_lasts|exact isC_lasts
   ·refine allLt_succ (allLt_succ (allLt_succ (allLt_succ (allLt_succ (allLt_succ (allLt_succ (allLt_succ (allLt_succ (allLt_succ (allLt_succ (allLt_succ (allLt_zero _) ?_) ?_) ?_) ?_) ?_) ?_) ?_) ?_) ?_) ?_) ?_) ?_
    ·refine StepOk2.run (get_lit rfl) rfl fun a W hS hB hd hE=> ?_
     have e12:a.tmps[12]? =some (.string (strOfNums p0)):=hE.get (j:=11) rfl rfl rfl rfl
     refine wp_value (c:= .string (strOfNums p0)) ?_ rfl
     go_simp
    ·refine StepOk2.of ?_
     refine StepOk.run (get_lit rfl) rfl fun a W hS hB hd=> ?_
     have e5:=hS.get (t:=5) rfl rfl
     refine wp_value (c:= .pointer (some ⟨b5,2,none⟩)) ?_ rfl
     go_simp
    ·refine StepOk2.of ?_
     refine StepOk.run (get_lit rfl) rfl fun a W hS hB hd=> ?_
     have e76:=(hd 1 rfl).bool rfl rfl rfl
     refine wp_value (c:= .int .u64 x2) ?_ rfl
     have hx:=blk_below HBX.out hB
     have hcW:W.cell? ⟨b5,2,none⟩=some (.int .u64 x2):=(blk_cell hx 2).trans rfl
     go_simp
    ·refine StepOk2.of ?_
     refine StepOk.run (get_lit rfl) rfl fun a W hS hB hd=> ?_
     have e77:=(hd 2 rfl).bool rfl rfl rfl
     refine wp_called Try.func67 (by kernel_rfl) rfl #[.int .u64 x2] rfl (by simp[Act.eval, *]) ?_
     refine(HQ2.out W).mono ?_
     rintro e w9 ⟨rfl,hb9⟩
     exact⟨_,rfl,rfl,hb9⟩
    ·refine StepOk2.of ?_
     refine StepOk.run (get_lit rfl) rfl fun a W hS hB hd=> ?_
     have e75:=(hd 0 rfl).bool rfl rfl rfl
     have e78:=(hd 3 rfl).bool rfl rfl rfl
     refine wp_value (c:= .string (strOfNums (p0++q2))) ?_ rfl
     have hadd:=HAD2.out W
     go_simp
    ·refine StepOk2.of ?_
     refine StepOk.run (get_lit rfl) rfl fun a W hS hB hd=> ?_
     have e5:=hS.get (t:=5) rfl rfl
     refine wp_value (c:= .pointer (some ⟨b5,3,none⟩)) ?_ rfl
     go_simp
    ·refine StepOk2.of ?_
     refine StepOk.run (get_lit rfl) rfl fun a W hS hB hd=> ?_
     have e80:=(hd 5 rfl).bool rfl rfl rfl
     refine wp_value (c:= .slice B l.length d) ?_ rfl
     have hx:=blk_below HBX.out hB
     have hcW:W.cell? ⟨b5,3,none⟩=some (.slice B l.length d):=(blk_cell hx 3).trans rfl
     go_simp
    ·refine StepOk2.of ?_
     refine StepOk.run (get_lit rfl) rfl fun a W hS hB hd=> ?_
     have e81:=(hd 6 rfl).bool rfl rfl rfl
     refine wp_value (c:= .int .i64 (l.length:Int)) ?_ rfl
     go_simp
    ·refine StepOk2.of ?_
     refine StepOk.run (get_lit rfl) rfl fun a W hS hB hd=> ?_
     have e82:=(hd 7 rfl).bool rfl rfl rfl
     refine wp_value (c:= .int .u64 (l.length:Int)) ?_ rfl
     have hw:=HLW.out
     go_simp
    ·refine StepOk2.of ?_
     refine StepOk.run (get_lit rfl) rfl fun a W hS hB hd=> ?_
     have e83:=(hd 8 rfl).bool rfl rfl rfl
     refine wp_called Try.func67 (by kernel_rfl) rfl #[.int .u64 (l.length:Int)] rfl (by simp[Act.eval, *]) ?_
     refine(HQ3.out W).mono ?_
     rintro e w9 ⟨rfl,hb9⟩
     exact⟨_,rfl,rfl,hb9⟩
    ·refine StepOk2.of ?_
     refine StepOk.run (get_lit rfl) rfl fun a W hS hB hd=> ?_
     have e79:=(hd 4 rfl).bool rfl rfl rfl
     have e84:=(hd 9 rfl).bool rfl rfl rfl
     refine wp_value (c:= .string (strOfNums (p0++q2++q3))) ?_ rfl
     have hadd:=HAD3.out W
     go_simp
    ·refine StepOk2.of ?_
     refine StepOk.run (get_lit rfl) rfl fun a W hS hB hd=> ?_
     have e85:=(hd 10 rfl).bool rfl rfl rfl
     refine wp_value (c:= .string (strOfNums (p0++q2++q3))) ?_ rfl
     go_simp
   ·intro a W hS hB hh
    have e12:a.tmps[12]? =some (.string (strOfNums (p0++q2++q3))):=(hh 11 (by omega)).bool rfl rfl rfl
    have HBR:=Lib.hid hB
    obtain⟨zz,hlit,hzz⟩:=same_litz hS
    clear hh hS hB
    simp only[List.filterMap_cons,List.filterMap_nil,List.foldl_cons,List.foldl_nil,List.setIfInBounds_toArray,List.set_cons_zero,List.set_cons_succ]at hlit
    rw[hzz 12 _ e12]at hlit
    clear e12
    clear hzz;subst hlit
    rw[HPP.out]
    have HX2:=Lib.hid (HX.out.below HBR.out)
    clear HBX HX HQ2 HQ3 HAD2 HAD3
    have y3:(W).cell? ⟨b5,3,none⟩=some (.slice B l.length d):=(blk_cell HX2.out.box 3).trans rfl
    go_wp2_with fail
    clear y3
    go_loopw [12,13] (fun u12 u13 wr=>∃(i:Nat),i≤l.length∧u13= .int .i64 (i:Int)∧u12= .string (strOfNums (P++depsE v T2 (l.take i)))∧Hid (RPSt Wq wr b5 #[.int .i64 k0, .string x1, .int .u64 x2, .slice B l.length d, .int .u64 x4, .int .u64 x5, .string x6] A2 c2 T2 (.slice A2 T2.length c2) T2 (.slice (some ⟨b5+1,0,none⟩) 0 0) ([]:List (List Int)) (.slice none 0 0) [])) (fun _ u _=>l.length-(intOf u).toNat)
    case atStart=>exact⟨0,by omega,rfl,by simp[depsE],HX2⟩
    case round=>
     clear HX2
     obtain⟨i,hi,rfl,rfl,H⟩:=hrel
     have y3:(wr).cell? ⟨b5,3,none⟩=some (.slice B l.length d):=(blk_cell H.out.box 3).trans rfl
     by_cases hlt:i<l.length
     ·have hdl:decide ((i:Int)<(l.length:Int))=true:=decide_eq_true (by omega)
      obtain⟨ad,hAd,g0,g1,g2⟩:=at_T109 (Kd.C_below HRO.out H.out.bl) (i:Int) (by omega) (by omega)
      subst hAd
      obtain⟨dd,hdd⟩: ∃d,l[i]=d:=⟨_,rfl⟩
      have hrd:rd_T109 l (i:Int)=dd:=by simp[rd_T109,hlt,hdd]
      rw[hrd,Int.toNat_natCast]at g0 g1 g2
      have hmem:dd∈l:=hdd ▸ List.getElem_mem _
      have htk:=depsE_take v T2 l i hlt
      rw[hdd]at htk
      have hdf:=HM.out.d dd hmem
      have hdg:=HDR.out dd hmem
      have hdn:v≠1→dd.f0∈T2:=fun h=>HIN.out h dd.f0 (by unfold namesL;rw[List.mem_append];exact .inl (List.mem_cons_of_mem _ (List.mem_map.2 ⟨dd,hmem,rfl⟩)))
      have hle:=depsE_len v T2 (by omega) (l.take i) (fun y hy=>⟨(HM.out.d y (List.mem_of_mem_take hy)).2.1,(HDR.out y (List.mem_of_mem_take hy)).2⟩)
      rw[List.length_take]at hle
      obtain⟨s,hh,o⟩:=dd
      dsimp only at g0 g1 g2 hdf hdg hdn htk
      obtain⟨PD,hPD⟩: ∃p,P++depsE v T2 (l.take i)=p:=⟨_,rfl⟩
      have lPD:PD.length≤2000:=by rw[←hPD,List.length_append];omega
      have hnx:P++depsE v T2 (l.take (i+1))=(PD++depE v T2 ⟨s,hh,o⟩)++ints (vb hh.toNat):=by rw[htk,←hPD];simp only[List.append_assoc]
      rw[hPD]
      have hDe:=depE_len v T2 (by omega) ⟨s,hh,o⟩ hdf.2.1
      have hHe:=vbI_len hh hdg.2
      have HPU:=Lib.hid (fun(W':World)=>put1_any hh hdg W')
      have HNX:=Lib.hid hnx
      have hC2r:Kd.C Kd.string wr A2 T2.length T2:=by
       obtain⟨A2',c2',e,_,h2⟩:=H.out.tab
       injection e with e1 e2 e3
       subst e1
       exact h2
      have HTX:=Lib.hid (fun(W':World) (hb:Below wr.heap.size wr W')=>rtext9_any v A2 c2 T2 s W' (Kd.C_below hC2r hb) hc2 (by omega) (by have:=hdf.2.1;omega) hdn)
      have hde:depE v T2 ⟨s,hh,o⟩=textE v T2 s:=by unfold depE;rw[if_pos (by have:=HV.out;omega)]
      rw[hde]at hDe HNX
      clear htk hdd hrd hmem hdf hdg hdn hle hPD hnx hC2r hde
      generalize textE v T2 s=t1 at*
      generalize ints (vb hh.toNat)=t2 at*
      have hadd1:=add_str PD t1 (by omega)
      have hadd2:=add_str (PD++t1) t2 (by rw[List.length_append];omega)
      have hba:Below wr.heap.size wr (wr.alloc (.cells #[.string s, .int .u64 hh, .bool o] 109)):=(Below.refl _ _).alloc (Nat.le_refl _) _
      have hka:(wr.alloc (.cells #[.string s, .int .u64 hh, .bool o] 109)).heap[wr.heap.size]? =some (.cells #[.string s, .int .u64 hh, .bool o] 109 (0,0)):=heap_new _ _
      have HBA:=Lib.hid hba
      have HKA:=Lib.hid hka
      clear hba hka
      go_wp2_with fail
      refine(HTX.out _ HBA.out).mono ?_
      rintro e wb ⟨rfl,hb⟩
      have hk:=blk_below HKA.out hb
      have e1:wb.cell? ⟨wr.heap.size,1,none⟩=some (.int .u64 hh):=(blk_cell hk 1).trans rfl
      have HB1:=Lib.hid (HBA.out.trans (hb.mono HBA.out.size))
      clear hb hk g0 g1 g2
      go_wp2_with fail
      refine(HPU.out wb).mono ?_
      rintro e wc ⟨rfl,hb⟩
      have HH:=Lib.hid (H.out.below (HB1.out.trans (hb.mono HB1.out.size)))
      clear hb e1
      go_wp2_with fail
      go_roundw
      case rel=>exact⟨i+1,by omega,by go_num,by rw[HNX.out,List.append_assoc],HH⟩
      case measure=>simp[intOf];omega
     ·obtain rfl:i=l.length:=by omega
      have hdl:decide ((l.length:Int)<(l.length:Int))=false:=decide_eq_false (by omega)
      rw[List.take_length]
      obtain⟨PE,hPE⟩: ∃p,P++depsE v T2 l=p:=⟨_,rfl⟩
      have hle:=depsE_len v T2 (by omega) l (fun y hy=>⟨(HM.out.d y hy).2.1,(HDR.out y hy).2⟩)
      have lPE:PE.length≤2000:=by rw[←hPE,List.length_append];omega
      rw[hPE]
      obtain⟨q4,hq4⟩: ∃q,ints (vb x4.toNat)=q:=⟨_,rfl⟩
      obtain⟨q5,hq5⟩: ∃q,ints (vb x5.toNat)=q:=⟨_,rfl⟩
      have l4:q4.length≤10:=by rw[←hq4];exact vbI_len x4 HR4.out.2
      have l5:q5.length≤10:=by rw[←hq5];exact vbI_len x5 HR5.out.2
      have HQ4:=Lib.hid (fun(W':World)=>put1_any x4 HR4.out W')
      have HQ5:=Lib.hid (fun(W':World)=>put1_any x5 HR5.out W')
      rw[hq4]at HQ4
      rw[hq5]at HQ5
      have hadd4:=add_str PE q4 (by omega)
      have hadd5:=add_str (PE++q4) q5 (by rw[List.length_append];omega)
      have HPE:=Lib.hid hPE
      have HQ45:=Lib.hid (And.intro hq4 hq5)
      clear hPE hle hq4 hq5
      have y4:(wr).cell? ⟨b5,4,none⟩=some (.int .u64 x4):=(blk_cell H.out.box 4).trans rfl
      go_wp2_with fail
      refine(HQ4.out wr).mono ?_
      rintro e wb ⟨rfl,hb⟩
      have HZ:=Lib.hid (H.out.below hb)
      clear hb y3 y4
      have HLE:Hid (lastE v T2 k0 x1 x2 l x4 x5 x6=PE++q4):=Lib.hid (by
       unfold lastE bodyE
       rw[if_neg HKN.out.2,if_neg (show ¬2≤v by have:=HV.out;omega),if_neg (show ¬3≤v by have:=HV.out;omega),←HPE.out,←HPP.out,←HP0.out,←HQE.out.1,←HQE.out.2.1,←HQE.out.2.2.1,←HQE.out.2.2.2,←HQ45.out.1,HKN.out.1,Int.toNat_natCast]
       rw[show ints (vb ((1:Int).toNat))=[1] from vb_k 1 (by omega)]
       simp only[List.append_assoc,List.append_nil])
      have hmr:(([]:List (List Int)).map strOfNums).length≤1000000:=by rw[List.length_map];have:=HRL.out;omega
      go_wp2_with (at_builtin;refine Halt.mk ?_)
      refine Halt.of ?_
      have hb4:Below wb.heap.size wb (wb.alloc (.cells #[.string (strOfNums (PE++q4))] 9)):=(Below.refl _ _).alloc (Nat.le_refl _) _
      have hk4:(wb.alloc (.cells #[.string (strOfNums (PE++q4))] 9)).heap[wb.heap.size]? =some (.cells #[.string (strOfNums (PE++q4))] 9 (0,0)):=heap_new _ _
      have hZ4:=HZ.out.below hb4
      refine Kd.R_append_rows Kd.string (w0:=Wq) Wq.heap.size rfl (.tmp 164) (.tmp 166) 45 9 (.string ⟨#[]⟩) 16 rfl Try.underlying45 info_str9 rfl (by decide) (by omega) _ (([]:List (List Int)).map strOfNums) [strOfNums (PE++q4)] _ _ _ (fun _=>True) (fun _=>False) rfl rfl hZ4.rw (row_val _ hk4) ?_ (fun _ h=>h.elim) (fun _ _=>trivial) hZ4.bl hZ4.bl.size (by omega) ?_
      ·rintro _ _ ⟨rfl,rfl⟩;rfl
      intro v6 w6 hR6 hb6 hg6 hat6
      have e6:([]:List (List Int)).map strOfNums++[strOfNums (PE++q4)]=((([]:List (List Int))++[(PE++q4)]).map strOfNums):=by rw[List.map_append];rfl
      rw[e6]at hR6
      have h6:=hZ4.pushed hR6 hb6 hg6 hat6
      obtain⟨A8,c8,e8,hc8,hC8⟩:=h6.tab
      obtain⟨rfl,_,rfl⟩:A2=A8∧T2.length=T2.length∧c2=c8:=by injection e8 with a1 a2 a3;exact⟨a1,a2,a3⟩
      have HE:=Lib.hid (And.intro h6 (And.intro hc8 hC8))
      obtain⟨Ar,cr,e9⟩:=Kd.R_slice hR6
      subst e9
      clear hR6 hb6 hg6 hat6 e6 h6 e8 hc8 hC8 hb4 hk4 hZ4
      go_wp2_with fail
      go_ret3
      obtain⟨h6,hc8,hC8⟩:=HE.out
      refine⟨_,A2,c2,rfl, ?_,hc8,hC8,h6.bl,h6.tb.imp (fun h=>by obtain⟨e1,e2⟩:=h;injection e2 with a1 a2 a3;exact⟨a1,a3,e1⟩) (fun hR=>Kd.R_mono hR (fun _ _=>trivial))⟩
      have h9:=h6.rw
      show Kd.R Kd.string 9 _ _ _ _ ((moreE T2 T2++[lastE v T2 k0 x1 x2 l x4 x5 x6]).map strOfNums)
      rw[HLE.out]
      first|exact h9|(rw[moreE_self];exact h9)
  ·have hkd:(k0==1)=false:=by rw[hk];rfl
   have hkd2:decide (k0=1)=false:=decide_eq_false (by omega)
   have y0:(W).cell? ⟨b5,0,none⟩=some (.int .i64 k0):=(blk_cell HBX.out 0).trans rfl
   have HZ:=HX
   have HLE:Hid (lastE v T2 k0 x1 x2 l x4 x5 x6=p0):=Lib.hid (by
    unfold lastE
    rw[if_pos hk,List.append_nil,←HP0.out,←HQE.out.1,←HQE.out.2.1,hk]
    rw[show ints (vb ((2:Int).toNat))=[2] from vb_k 2 (by omega)])
   clear hk
   have hmr:(([]:List (List Int)).map strOfNums).length≤1000000:=by rw[List.length_map];have:=HRL.out;omega
   go_wp2_with (at_builtin;refine Halt.mk ?_)
   refine Halt.of ?_
   have hb4:Below W.heap.size W (W.alloc (.cells #[.string (strOfNums p0)] 9)):=(Below.refl _ _).alloc (Nat.le_refl _) _
   have hk4:(W.alloc (.cells #[.string (strOfNums p0)] 9)).heap[W.heap.size]? =some (.cells #[.string (strOfNums p0)] 9 (0,0)):=heap_new _ _
   have hZ4:=HZ.out.below hb4
   refine Kd.R_append_rows Kd.string (w0:=Wq) Wq.heap.size rfl (.tmp 164) (.tmp 166) 45 9 (.string ⟨#[]⟩) 16 rfl Try.underlying45 info_str9 rfl (by decide) (by omega) _ (([]:List (List Int)).map strOfNums) [strOfNums p0] _ _ _ (fun _=>True) (fun _=>False) rfl rfl hZ4.rw (row_val _ hk4) ?_ (fun _ h=>h.elim) (fun _ _=>trivial) hZ4.bl hZ4.bl.size (by omega) ?_
   ·rintro _ _ ⟨rfl,rfl⟩;rfl
   intro v6 w6 hR6 hb6 hg6 hat6
   have e6:([]:List (List Int)).map strOfNums++[strOfNums p0]=((([]:List (List Int))++[p0]).map strOfNums):=by rw[List.map_append];rfl
   rw[e6]at hR6
   have h6:=hZ4.pushed hR6 hb6 hg6 hat6
   obtain⟨A8,c8,e8,hc8,hC8⟩:=h6.tab
   obtain⟨rfl,_,rfl⟩:A2=A8∧T2.length=T2.length∧c2=c8:=by injection e8 with a1 a2 a3;exact⟨a1,a2,a3⟩
   have HE:=Lib.hid (And.intro h6 (And.intro hc8 hC8))
   obtain⟨Ar,cr,e9⟩:=Kd.R_slice hR6
   subst e9
   clear hR6 hb6 hg6 hat6 e6 h6 e8 hc8 hC8 hb4 hk4 hZ4
   go_wp2_with fail
   go_ret3
   obtain⟨h6,hc8,hC8⟩:=HE.out
   refine⟨_,A2,c2,rfl, ?_,hc8,hC8,h6.bl,h6.tb.imp (fun h=>by obtain⟨e1,e2⟩:=h;injection e2 with a1 a2 a3;exact⟨a1,a3,e1⟩) (fun hR=>Kd.R_mono hR (fun _ _=>trivial))⟩
   have h9:=h6.rw
   show Kd.R Kd.string 9 _ _ _ _ ((moreE T2 T2++[lastE v T2 k0 x1 x2 l x4 x5 x6]).map strOfNums)
   rw[HLE.out]
   first|exact h9|(rw[moreE_self];exact h9)
set_option maxHeartbeats 8000000 in
set_option maxRecDepth 100000 in
theorem rput9_2 (Wq:World) (v:Int) (A:Option Addr) (c:Nat) (T:List ByteArray) (hC:Kd.C Kd.string Wq A T.length T) (hc:T.length≤c) (hT:T.length≤100000) (k0:Int) (x1:ByteArray) (x2:Int) (B:Option Addr) (d:Nat) (l:List S109) (x4 x5:Int) (x6:ByteArray)
  (hrow:Kd.C k109 Wq B l.length l) (hd:l.length≤d) (hok:RecOk x1 l x6) (hv:v=2) (hm:mayB v k0 x1 x2 l x4 x5 x6=true) (h2:0≤x2∧x2<18446744073709551616) (h4:0≤x4∧x4<18446744073709551616) (h5:0≤x5∧x5<18446744073709551616) (hdr: ∀y∈l,0≤y.f1∧y.f1<18446744073709551616):
  Calls Try.prog 32 #[.int .i64 v, .slice A T.length c, .agg #[.int .i64 k0, .string x1, .int .u64 x2, .slice B l.length d, .int .u64 x4, .int .u64 x5, .string x6]] Wq (RPutPost Wq A c T (putF v T k0 x1 x2 l x4 x5 x6)):=by
 have hpf:putF v T k0 x1 x2 l x4 x5 x6=((moreE T (tnewOn T (tnew (namesL x1 l x6))))++[lastE v (tnewOn T (tnew (namesL x1 l x6))) k0 x1 x2 l x4 x5 x6],(tnewOn T (tnew (namesL x1 l x6))),0):=by
  unfold putF
  rw[if_pos (show 1≤v∧v≤3 by omega),if_pos hm]
  rw[if_pos (show 1<v by omega)]
 rw[hpf]
 obtain⟨wz,hwz⟩: ∃wz,(Wq.alloc (.cells #[.int .i64 k0, .string x1, .int .u64 x2, .slice B l.length d, .int .u64 x4, .int .u64 x5, .string x6] 62)).alloc (.cells #[] 9)=wz:=⟨_,rfl⟩
 have hbz:Below Wq.heap.size Wq wz:=by rw[←hwz];exact((Below.refl _ _).alloc (Nat.le_refl _) _).alloc (by rw[heap_size_alloc];omega) _
 have hkz:wz.heap[Wq.heap.size]? =some (.cells #[.int .i64 k0, .string x1, .int .u64 x2, .slice B l.length d, .int .u64 x4, .int .u64 x5, .string x6] 62 (0,0)):=by rw[←hwz,heap_new_old _ _ _ (by rw[heap_size_alloc];omega)];exact heap_new _ _
 have hke:wz.heap[Wq.heap.size+1]? =some (.cells #[] 9 (0,0)):=by rw[←hwz];exact heap_new2 _ _ _
 obtain⟨b5,hb5⟩: ∃b,Wq.heap.size=b:=⟨_,rfl⟩
 rw[hb5]at hkz hke
 have hre:=R_empty Kd.string wz Wq.heap.size (b5+1) 9 (fun _=>True) hke (by omega) trivial
 have M:=may_facts hm
 have HMY:=Lib.hid (rmay_any v k0 x1 x2 l x4 x5 x6 B d wz (Kd.C_below hrow hbz))
 rw[hm]at HMY
 have HC:=Lib.hid hC
 have HRO:=Lib.hid hrow
 have HBZ:=Lib.hid hbz
 have HKZ:=Lib.hid hkz
 have HWZ:=Lib.hid hwz
 have HREZ:=Lib.hid hre
 have HB5:=Lib.hid hb5
 have HM:=Lib.hid M
 have HR2:=Lib.hid h2
 have HR4:=Lib.hid h4
 have HR5:=Lib.hid h5
 have HDR:=Lib.hid hdr
 have HV:=Lib.hid hv
 have HKW:=Lib.hid (show IntKind.u64.wrap k0=k0 by have:=M.k;rw[IntKind.wrap_u64];omega)
 have HLW:=Lib.hid (show IntKind.u64.wrap (l.length:Int)=(l.length:Int)by have:=M.n;rw[IntKind.wrap_u64];omega)
 have hln:l.length≤16:=M.n
 have HNM:=Lib.hid (fun(Wq':World) (hb:Below Wq.heap.size Wq Wq')=>tephraref08_Names.calls 6001 k0 x1 x2 B d l x4 x5 x6 _ Wq' (Kd.C_below hrow hb) hd (names_is k0 x1 x2 l x4 x5 x6 (by omega) _ (by omega)))
 have d1:decide (v<1)=false:=decide_eq_false (by omega)
 have d3:decide (3<v)=false:=decide_eq_false (by omega)
 have d2:decide (1<v)=true:=decide_eq_true (by omega)
 have d4:decide (v<3)=true:=decide_eq_true (by omega)
 have d5:decide (2<v)=false:=decide_eq_false (by omega)
 clear hpf hC hrow hbz hkz hke hre hwz hb5 M h2 h4 h5 hdr hm hv hok
 go_enter Try.func32,Try.ntmps32
 go_wp2_with fail
 rw[HWZ.out,HB5.out]
 refine HMY.out.mono ?_
 rintro e wa ⟨rfl,hb⟩
 have HBA:=Lib.hid (HBZ.out.trans (hb.mono HBZ.out.size))
 have HBX:=Lib.hid (blk_below HKZ.out hb)
 have HRE:=Lib.hid (Kd.R_below HREZ.out hb)
 clear hb HREZ HWZ HKZ
 obtain⟨y0,y1,y2,y3,y4,y5,y6⟩:=facts7 HBX.out
 go_wp2_with fail
 clear y0 y1 y2 y3 y4 y5 y6
 refine(HNM.out wa HBA.out).mono ?_
 rintro e wb ⟨vn,rfl,hRn,hb⟩
 obtain⟨An,cn,rfl⟩:=Kd.R_slice hRn
 have HNS:=Lib.hid (names_few (x1:=x1) (l:=l) (x6:=x6) HM.out.t.2 HM.out.n (fun d hd=>(HM.out.d d hd).2.1) HM.out.tag.1)
 generalize hns:tnew (namesL x1 l x6)=ns at*
 have HNN:=Lib.hid hns
 have hbb:Below Wq.heap.size Wq wb:=HBA.out.trans (hb.mono HBA.out.size)
 have hsa:b5+1<wa.heap.size:=(own_typed_R HRE.out (b5+1) rfl).2.1
 have hst:RPSt Wq wb b5 #[.int .i64 k0, .string x1, .int .u64 x2, .slice B l.length d, .int .u64 x4, .int .u64 x5, .string x6] A c T (.slice A T.length c) T (.slice (some ⟨b5+1,0,none⟩) 0 0) [] (.slice An ns.length cn) ns:=
  ⟨hbb,blk_below HBX.out hb,⟨HC.out,hc⟩, .inl ⟨rfl,rfl⟩,Kd.R_below HRE.out hb,Kd.R_mono (Kd.R_lower (Kd.R_bound hRn) HBA.out.size) (fun k hk e=>by injection e with e;replace e:k=b5+1:=e;have:=hk.2.1;have:=HB5.out;omega)⟩
 have HST:=Lib.hid hst
 clear hb hbb hRn hst hns HBX HRE HNM HBA hsa
 go_wp2_with fail
 go_loopw [1,9,11] (fun u1 u9 u11 wr=>∃(i:Nat),i≤ns.length∧u11= .int .i64 (i:Int)∧Hid (RPSt Wq wr b5 #[.int .i64 k0, .string x1, .int .u64 x2, .slice B l.length d, .int .u64 x4, .int .u64 x5, .string x6] A c T u1 (tnewOn T (ns.take i)) u9 (moreE T (tnewOn T (ns.take i))) (.slice An ns.length cn) ns)) (fun _ _ u _=>ns.length-(intOf u).toNat)
 case atStart=>exact⟨0,by omega,rfl,Lib.hid (by rw[List.take_zero,show tnewOn T []=T from rfl,moreE_self];exact HST.out)⟩
 case round=>
  clear HST
  obtain⟨i,hi,rfl,H⟩:=hrel
  have hn18:=HNS.out.1
  by_cases hlt:i<ns.length
  ·have hdl:decide ((i:Int)<(ns.length:Int))=true:=decide_eq_true (by omega)
   obtain⟨adn,hAn,hcell⟩:=Kd.at_string (Kd.R_reads' H.out.nm).2.2 (i:Int) (by omega) (by omega)
   subst hAn
   rw[Int.toNat_natCast]at hcell
   obtain⟨s,hs⟩: ∃s,ns[i]=s:=⟨_,rfl⟩
   have hrd:rdOf ByteArray.empty ns (i:Int)=s:=by simp[rdOf,hlt,hs]
   rw[hrd]at hcell
   have HRD:=Lib.hid hrd
   have hsz:=HNS.out.2 s (hs ▸ List.getElem_mem _)
   have htk:=tnewOn_take T ns i hlt
   rw[hs]at htk
   have hll:=tnewOn_len T (ns.take i)
   have hge:=tnewOn_ge T (ns.take i)
   rw[List.length_take]at hll
   generalize tnewOn T (ns.take i)=L at*
   obtain⟨A2,c2,rfl,hc2,hC2⟩:=H.out.tab
   have HPL:=Lib.hid (tephraref07_Place.calls (L.length+1) A2 c2 L s (posI8 L s) wr hC2 hc2 (place_is8 L (by omega) s _ (by omega)))
   have hpd:decide (posI8 L s<0)= !(isIn L s):=by
    unfold posI8
    cases isIn L s with
    |true=>simp
    |false=>simp
   have HTK:=Lib.hid htk
   have HSZ:=Lib.hid (And.intro hsz (And.intro hll hge))
   clear hrd hs htk hsz hll hge hC2
   by_cases hin:s∈L
   ·rw[isIn_iff.2 hin,Bool.not_true]at hpd
    have HMO:=Lib.hid (And.intro (moreE_in (T:=T) hin) (tput_in hin))
    generalize posI8 L s=q at HPL hpd
    clear hin
    go_wp2_with fail
    refine HPL.out.mono ?_
    rintro e wc ⟨rfl,hdr⟩
    have hb:=hdr.below
    have HH:=Lib.hid (H.out.below hb)
    clear hdr hb hcell
    go_wp2_with fail
    go_roundw
    case rel=>exact⟨i+1,by omega,by go_num,Lib.hid (by rw[HTK.out,HMO.out.2];exact HH.out)⟩
    case measure=>simp[intOf];omega
   ·rw[isIn_ne.2 hin,Bool.not_false]at hpd
    have HMO:=Lib.hid (moreE_out (T:=T) HSZ.out.2.2 hin)
    have hadd:=add_def s (by have:=HSZ.out.1;omega)
    have HNI:=Lib.hid hin
    generalize posI8 L s=q at HPL hpd
    clear hin
    go_wp2_with fail
    refine HPL.out.mono ?_
    rintro e wc ⟨rfl,hdr⟩
    have hb:=hdr.below
    have HH:=Lib.hid (H.out.below hb)
    have hcell2:=pw_cell_below hb hcell
    clear hdr hb hcell
    obtain⟨A9,c9,e9⟩:=Kd.R_slice HH.out.rw
    rw[List.length_map]at e9
    subst e9
    have hmr:((moreE T L).map strOfNums).length≤1000000:=by have:=HSZ.out.2.1;rw[List.length_map];unfold moreE;rw[List.length_map,List.length_drop];omega
    go_wp2_with (at_builtin;refine Halt.mk ?_)
    refine Halt.of ?_
    have hb4:Below wc.heap.size wc (wc.alloc (.cells #[.string (strOfNums (defE s))] 9)):=(Below.refl _ _).alloc (Nat.le_refl _) _
    have hk4:(wc.alloc (.cells #[.string (strOfNums (defE s))] 9)).heap[wc.heap.size]? =some (.cells #[.string (strOfNums (defE s))] 9 (0,0)):=heap_new _ _
    have hH4:=HH.out.below hb4
    refine Kd.R_append_rows Kd.string (w0:=Wq) Wq.heap.size rfl (.tmp 48) (.tmp 54) 45 9 (.string ⟨#[]⟩) 16 rfl Try.underlying45 info_str9 rfl (by decide) (by omega) _ ((moreE T L).map strOfNums) [strOfNums (defE s)] _ _ _ (fun _=>True) (fun _=>False) rfl rfl hH4.rw (row_val _ hk4) ?_ (fun _ h=>h.elim) (fun _ _=>trivial) hH4.bl hH4.bl.size (by omega) ?_
    ·rintro _ _ ⟨rfl,rfl⟩;rfl
    intro v6 w6 hR6 hb6 hg6 hat6
    have e6:(moreE T L).map strOfNums++[strOfNums (defE s)]=((moreE T L++[defE s]).map strOfNums):=by rw[List.map_append];rfl
    rw[e6]at hR6
    have h6:=hH4.pushed hR6 hb6 hg6 hat6
    obtain⟨A6,c6,e6v,hc6,hC6⟩:=h6.tab
    obtain⟨rfl,_,rfl⟩:A2=A6∧L.length=L.length∧c2=c6:=by injection e6v with a1 a2 a3;exact⟨a1,a2,a3⟩
    have HTP:=Lib.hid (rtput_any A2 c2 L s w6 hC6 hc6 (by have:=HSZ.out.2.1;omega))
    obtain⟨ad9,hA9,hcell6⟩:=Kd.at_string (Kd.R_reads' h6.nm).2.2 (i:Int) (by omega) (by omega)
    obtain rfl:adn=ad9:=Option.some.inj hA9
    rw[Int.toNat_natCast,HRD.out]at hcell6
    have H6:=Lib.hid h6
    clear hR6 hb6 hg6 hat6 e6 h6 e6v hC6 hA9 hb4 hk4 hH4 hcell2 hadd HPL
    go_wp2_with fail
    refine HTP.out.mono ?_
    rintro e w7 ⟨A7,c7,rfl,hc7,hC7,hb7,hR7⟩
    have H7:=Lib.hid (H6.out.tabled hb7 (hR7 HNI.out))
    clear hC7 hb7 hR7 hcell6 HTP H6
    go_wp2_with fail
    go_roundw
    case rel=>exact⟨i+1,by omega,by go_num,Lib.hid (by rw[HTK.out,HMO.out];exact H7.out)⟩
    case measure=>simp[intOf];omega
  ·obtain rfl:i=ns.length:=by omega
   rw[List.take_of_length_le (Nat.le_refl _)]at H
   have hrl:(moreE T (tnewOn T ns)).length≤100:=by unfold moreE;rw[List.length_map,List.length_drop];have:=tnewOn_len T ns;omega
   have hin:v≠1→∀s∈namesL x1 l x6,s∈tnewOn T ns:=fun _ s hs=>by rw[mem_tnewOn,←HNN.out,mem_tnew];exact .inr hs
   have hT2:(tnewOn T ns).length≤200000:=by have:=tnewOn_len T ns;omega
   generalize tnewOn T ns=T2 at*
   generalize moreE T T2=rows at*
   obtain⟨A9,c9,e9⟩:=Kd.R_slice H.out.rw
   rw[List.length_map]at e9
   subst e9
   obtain⟨A2,c2,e2,hc2,hC2⟩:=H.out.tab
   subst e2
   have HC2:=Lib.hid hC2
   have HRW:=Lib.hid hrl
   have HRL:=Lib.hid hrl
   have HIN:=Lib.hid hin
   obtain⟨q0,hq0⟩: ∃q,ints (vb k0.toNat)=q:=⟨_,rfl⟩
   obtain⟨q1,hq1⟩: ∃q,textE v T2 x1=q:=⟨_,rfl⟩
   obtain⟨q2,hq2⟩: ∃q,ints (vb x2.toNat)=q:=⟨_,rfl⟩
   obtain⟨q3,hq3⟩: ∃q,ints (vb ((l.length:Int)).toNat)=q:=⟨_,rfl⟩
   have hK:=HM.out.k
   have l0:q0.length≤10:=by rw[←hq0];exact vbI_len k0 (by omega)
   have l1:q1.length≤74:=by rw[←hq1];exact textE_len v T2 (by omega) x1 HM.out.t.2
   have l2:q2.length≤10:=by rw[←hq2];exact vbI_len x2 HR2.out.2
   have l3:q3.length≤10:=by rw[←hq3];exact vbI_len (l.length:Int) (by omega)
   have HQ0:=Lib.hid (fun(W':World)=>put1_any k0 (by omega) W')
   have HQ1:=Lib.hid (fun(W':World) (hb:Below wr.heap.size wr W')=>rtext9_any v A2 c2 T2 x1 W' (Kd.C_below HC2.out hb) hc2 (by omega) (by have:=HM.out.t.2;omega) (fun h=>hin h x1 (by unfold namesL;simp)))
   have HQ2:=Lib.hid (fun(W':World)=>put1_any x2 HR2.out W')
   have HQ3:=Lib.hid (fun(W':World)=>put1_any (l.length:Int) (by omega) W')
   rw[hq0]at HQ0
   rw[hq1]at HQ1
   rw[hq2]at HQ2
   rw[hq3]at HQ3
   have HAD:=Lib.hid (add_str q0 q1 (by omega))
   obtain⟨p0,hp0⟩: ∃p,q0++q1=p:=⟨_,rfl⟩
   have lp0:p0.length≤84:=by rw[←hp0,List.length_append];omega
   have HAD2:=Lib.hid (add_str p0 q2 (by omega))
   have HAD3:=Lib.hid (add_str (p0++q2) q3 (by rw[List.length_append];omega))
   obtain⟨P,hP⟩: ∃p,p0++q2++q3=p:=⟨_,rfl⟩
   have lP:P.length≤104:=by rw[←hP,List.length_append,List.length_append];omega
   have HQE:=Lib.hid (And.intro hq0 (And.intro hq1 (And.intro hq2 hq3)))
   have HP0:=Lib.hid hp0
   have HPP:=Lib.hid hP
   have HBX:=Lib.hid H.out.box
   have HKK:=Lib.hid hK
   clear hC2 hq0 hq1 hq2 hq3 hp0 hP hin hK
   go_wp2_with fail
   refine region_calm (n:=11) (byList [isV (.pointer (some ⟨b5,0,none⟩)),isV (.int .i64 k0),isV (.int .u64 k0),isV (.string (strOfNums q0)),isV (.int .i64 v),isV (.slice A2 T2.length c2),isV (.pointer (some ⟨b5,1,none⟩)),isV (.string x1),isV (.string (strOfNums q1)),isV (.string (strOfNums (q0++q1))),isV (.string (strOfNums (q0++q1)))]) (by kernel_rfl) rfl (byList_lasts ?_) (by kernel_rfl) (by kernel_rfl) (by kernel_rfl) (show AllLt 11 _ from ?_) ?_
   ·intro p hp
    simp only[List.mem_cons,List.not_mem_nil,or_false]at hp
    rcases hp with rfl|rfl|rfl|rfl|rfl|rfl|rfl|rfl|rfl|rfl|rfl<;>first|exact isV_lasts|exact isC_lasts
   ·refine allLt_succ (allLt_succ (allLt_succ (allLt_succ (allLt_succ (allLt_succ (allLt_succ (allLt_succ (allLt_succ (allLt_succ (allLt_succ (allLt_zero _) ?_) ?_) ?_) ?_) ?_) ?_) ?_) ?_) ?_) ?_) ?_
    ·refine StepOk.run (get_lit rfl) rfl fun a W hS hB hd=> ?_
     have e5:=hS.get (t:=5) rfl rfl
     refine wp_value (c:= .pointer (some ⟨b5,0,none⟩)) ?_ rfl
     go_simp
    ·refine StepOk.run (get_lit rfl) rfl fun a W hS hB hd=> ?_
     have e62:=(hd 0 rfl).bool rfl rfl rfl
     refine wp_value (c:= .int .i64 k0) ?_ rfl
     have hx:=blk_below HBX.out hB
     have hcW:W.cell? ⟨b5,0,none⟩=some (.int .i64 k0):=(blk_cell hx 0).trans rfl
     go_simp
    ·refine StepOk.run (get_lit rfl) rfl fun a W hS hB hd=> ?_
     have e63:=(hd 1 rfl).bool rfl rfl rfl
     refine wp_value (c:= .int .u64 k0) ?_ rfl
     have hw:=HKW.out
     go_simp
    ·refine StepOk.run (get_lit rfl) rfl fun a W hS hB hd=> ?_
     have e64:=(hd 2 rfl).bool rfl rfl rfl
     refine wp_called Try.func67 (by kernel_rfl) rfl #[.int .u64 k0] rfl (by simp[Act.eval, *]) ?_
     refine(HQ0.out W).mono ?_
     rintro e w9 ⟨rfl,hb9⟩
     exact⟨_,rfl,rfl,hb9⟩
    ·refine StepOk.run (get_lit rfl) rfl fun a W hS hB hd=> ?_
     have e0:=hS.get (t:=0) rfl rfl
     refine wp_value (c:= .int .i64 v) ?_ rfl
     go_simp
    ·refine StepOk.run (get_lit rfl) rfl fun a W hS hB hd=> ?_
     have e1:=hS.get (t:=1) rfl rfl
     refine wp_value (c:= .slice A2 T2.length c2) ?_ rfl
     go_simp
    ·refine StepOk.run (get_lit rfl) rfl fun a W hS hB hd=> ?_
     have e5:=hS.get (t:=5) rfl rfl
     refine wp_value (c:= .pointer (some ⟨b5,1,none⟩)) ?_ rfl
     go_simp
    ·refine StepOk.run (get_lit rfl) rfl fun a W hS hB hd=> ?_
     have e68:=(hd 6 rfl).bool rfl rfl rfl
     refine wp_value (c:= .string x1) ?_ rfl
     have hx:=blk_below HBX.out hB
     have hcW:W.cell? ⟨b5,1,none⟩=some (.string x1):=(blk_cell hx 1).trans rfl
     go_simp
    ·refine StepOk.run (get_lit rfl) rfl fun a W hS hB hd=> ?_
     have e66:=(hd 4 rfl).bool rfl rfl rfl
     have e67:=(hd 5 rfl).bool rfl rfl rfl
     have e69:=(hd 7 rfl).bool rfl rfl rfl
     refine wp_called Try.func68 (by kernel_rfl) rfl #[.int .i64 v, .slice A2 T2.length c2, .string x1] rfl (by simp[Act.eval, *]) ?_
     refine(HQ1.out W hB).mono ?_
     rintro e w9 ⟨rfl,hb9⟩
     exact⟨_,rfl,rfl,hb9⟩
    ·refine StepOk.run (get_lit rfl) rfl fun a W hS hB hd=> ?_
     have e65:=(hd 3 rfl).bool rfl rfl rfl
     have e70:=(hd 8 rfl).bool rfl rfl rfl
     refine wp_value (c:= .string (strOfNums (q0++q1))) ?_ rfl
     have hadd:=HAD.out W
     go_simp
    ·refine StepOk.run (get_lit rfl) rfl fun a W hS hB hd=> ?_
     have e71:=(hd 9 rfl).bool rfl rfl rfl
     refine wp_value (c:= .string (strOfNums (q0++q1))) ?_ rfl
     go_simp
   ·intro a W hS hB hh
    have e12:a.tmps[12]? =some (.string (strOfNums (q0++q1))):=(hh 10 (by omega)).bool rfl rfl rfl
    have HBR:=Lib.hid hB
    obtain⟨zz,hlit,hzz⟩:=same_litz hS
    clear hh hS hB
    simp only[List.filterMap_cons,List.filterMap_nil,List.foldl_cons,List.foldl_nil,List.setIfInBounds_toArray,List.set_cons_zero,List.set_cons_succ]at hlit
    rw[hzz 12 _ e12]at hlit
    clear e12
    clear hzz;subst hlit
    have HX:=Lib.hid (H.out.below HBR.out)
    rw[HP0.out]
    clear HBX HQ0 HQ1 HAD H
    have HBX:=Lib.hid HX.out.box
    rcases HKK.out with hk|hk
    ·have hkd:(k0==1)=true:=by rw[hk];rfl
     have hkd2:decide (k0=1)=true:=decide_eq_true hk
     have hkn: ¬k0=2:=by omega
     have HKN:=Lib.hid (And.intro hk hkn)
     clear hk hkn
     have y0:(W).cell? ⟨b5,0,none⟩=some (.int .i64 k0):=(blk_cell HBX.out 0).trans rfl
     go_wp2_with fail
     clear y0
     refine region_calm2 (n:=12) (byList [isV (.string (strOfNums p0)),isV (.pointer (some ⟨b5,2,none⟩)),isV (.int .u64 x2),isV (.string (strOfNums q2)),isV (.string (strOfNums (p0++q2))),isV (.pointer (some ⟨b5,3,none⟩)),isV (.slice B l.length d),isV (.int .i64 (l.length:Int)),isV (.int .u64 (l.length:Int)),isV (.string (strOfNums q3)),isV (.string (strOfNums (p0++q2++q3))),isV (.string (strOfNums (p0++q2++q3)))]) (by kernel_rfl) rfl (byList_lasts ?_) (by kernel_rfl) (by kernel_rfl) (by kernel_rfl) (show AllLt 12 _ from ?_) ?_
     ·intro p hp
      simp only[List.mem_cons,List.not_mem_nil,or_false]at hp
      rcases hp with rfl|rfl|rfl|rfl|rfl|rfl|rfl|rfl|rfl|rfl|rfl|rfl<;>first|exact isV_lasts|exact isC_lasts
     ·refine allLt_succ (allLt_succ (allLt_succ (allLt_succ (allLt_succ (allLt_succ (allLt_succ (allLt_succ (allLt_succ (allLt_succ (allLt_succ (allLt_succ (allLt_zero _) ?_) ?_) ?_) ?_) ?_) ?_) ?_) ?_) ?_) ?_) ?_) ?_
      ·refine StepOk2.run (get_lit rfl) rfl fun a W hS hB hd hE=> ?_
       have e12:a.tmps[12]? =some (.string (strOfNums p0)):=hE.get (j:=11) rfl rfl rfl rfl
       refine wp_value (c:= .string (strOfNums p0)) ?_ rfl
       go_simp
      ·refine StepOk2.of ?_
       refine StepOk.run (get_lit rfl) rfl fun a W hS hB hd=> ?_
       have e5:=hS.get (t:=5) rfl rfl
       refine wp_value (c:= .pointer (some ⟨b5,2,none⟩)) ?_ rfl
       go_simp
      ·refine StepOk2.of ?_
       refine StepOk.run (get_lit rfl) rfl fun a W hS hB hd=> ?_
       have e76:=(hd 1 rfl).bool rfl rfl rfl
       refine wp_value (c:= .int .u64 x2) ?_ rfl
       have hx:=blk_below HBX.out hB
       have hcW:W.cell? ⟨b5,2,none⟩=some (.int .u64 x2):=(blk_cell hx 2).trans rfl
       go_simp
      ·refine StepOk2.of ?_
       refine StepOk.run (get_lit rfl) rfl fun a W hS hB hd=> ?_
       have e77:=(hd 2 rfl).bool rfl rfl rfl
       refine wp_called Try.func67 (by kernel_rfl) rfl #[.int .u64 x2] rfl (by simp[Act.eval, *]) ?_
       refine(HQ2.out W).mono ?_
       rintro e w9 ⟨rfl,hb9⟩
       exact⟨_,rfl,rfl,hb9⟩
      ·refine StepOk2.of ?_
       refine StepOk.run (get_lit rfl) rfl fun a W hS hB hd=> ?_
       have e75:=(hd 0 rfl).bool rfl rfl rfl
       have e78:=(hd 3 rfl).bool rfl rfl rfl
       refine wp_value (c:= .string (strOfNums (p0++q2))) ?_ rfl
       have hadd:=HAD2.out W
       go_simp
      ·refine StepOk2.of ?_
       refine StepOk.run (get_lit rfl) rfl fun a W hS hB hd=> ?_
       have e5:=hS.get (t:=5) rfl rfl
       refine wp_value (c:= .pointer (some ⟨b5,3,none⟩)) ?_ rfl
       go_simp
      ·refine StepOk2.of ?_
       refine StepOk.run (get_lit rfl) rfl fun a W hS hB hd=> ?_
       have e80:=(hd 5 rfl).bool rfl rfl rfl
       refine wp_value (c:= .slice B l.length d) ?_ rfl
       have hx:=blk_below HBX.out hB
       have hcW:W.cell? ⟨b5,3,none⟩=some (.slice B l.length d):=(blk_cell hx 3).trans rfl
       go_simp
      ·refine StepOk2.of ?_
       refine StepOk.run (get_lit rfl) rfl fun a W hS hB hd=> ?_
       have e81:=(hd 6 rfl).bool rfl rfl rfl
       refine wp_value (c:= .int .i64 (l.length:Int)) ?_ rfl
       go_simp
      ·refine StepOk2.of ?_
       refine StepOk.run (get_lit rfl) rfl fun a W hS hB hd=> ?_
       have e82:=(hd 7 rfl).bool rfl rfl rfl
       refine wp_value (c:= .int .u64 (l.length:Int)) ?_ rfl
       have hw:=HLW.out
       go_simp
      ·refine StepOk2.of ?_
       refine StepOk.run (get_lit rfl) rfl fun a W hS hB hd=> ?_
       have e83:=(hd 8 rfl).bool rfl rfl rfl
       refine wp_called Try.func67 (by kernel_rfl) rfl #[.int .u64 (l.length:Int)] rfl (by simp[Act.eval, *]) ?_
       refine(HQ3.out W).mono ?_
       rintro e w9 ⟨rfl,hb9⟩
       exact⟨_,rfl,rfl,hb9⟩
      ·refine StepOk2.of ?_
       refine StepOk.run (get_lit rfl) rfl fun a W hS hB hd=> ?_
       have e79:=(hd 4 rfl).bool rfl rfl rfl
       have e84:=(hd 9 rfl).bool rfl rfl rfl
       refine wp_value (c:= .string (strOfNums (p0++q2++q3))) ?_ rfl
       have hadd:=HAD3.out W
       go_simp
      ·refine StepOk2.of ?_
       refine StepOk.run (get_lit rfl) rfl fun a W hS hB hd=> ?_
       have e85:=(hd 10 rfl).bool rfl rfl rfl
       refine wp_value (c:= .string (strOfNums (p0++q2++q3))) ?_ rfl
       go_simp
     ·intro a W hS hB hh
      have e12:a.tmps[12]? =some (.string (strOfNums (p0++q2++q3))):=(hh 11 (by omega)).bool rfl rfl rfl
      have HBR:=Lib.hid hB
      obtain⟨zz,hlit,hzz⟩:=same_litz hS
      clear hh hS hB
      simp only[List.filterMap_cons,List.filterMap_nil,List.foldl_cons,List.foldl_nil,List.setIfInBounds_toArray,List.set_cons_zero,List.set_cons_succ]at hlit
      rw[hzz 12 _ e12]at hlit
      clear e12
      clear hzz;subst hlit
      rw[HPP.out]
      have HX2:=Lib.hid (HX.out.below HBR.out)
      clear HBX HX HQ2 HQ3 HAD2 HAD3
      have y3:(W).cell? ⟨b5,3,none⟩=some (.slice B l.length d):=(blk_cell HX2.out.box 3).trans rfl
      go_wp2_with fail
      clear y3
      go_loopw [12,13] (fun u12 u13 wr=>∃(i:Nat),i≤l.length∧u13= .int .i64 (i:Int)∧u12= .string (strOfNums (P++depsE v T2 (l.take i)))∧Hid (RPSt Wq wr b5 #[.int .i64 k0, .string x1, .int .u64 x2, .slice B l.length d, .int .u64 x4, .int .u64 x5, .string x6] A c T (.slice A2 T2.length c2) T2 (.slice A9 rows.length c9) rows (.slice An ns.length cn) ns)) (fun _ u _=>l.length-(intOf u).toNat)
      case atStart=>exact⟨0,by omega,rfl,by simp[depsE],HX2⟩
      case round=>
       clear HX2
       obtain⟨i,hi,rfl,rfl,H⟩:=hrel
       have y3:(wr).cell? ⟨b5,3,none⟩=some (.slice B l.length d):=(blk_cell H.out.box 3).trans rfl
       by_cases hlt:i<l.length
       ·have hdl:decide ((i:Int)<(l.length:Int))=true:=decide_eq_true (by omega)
        obtain⟨ad,hAd,g0,g1,g2⟩:=at_T109 (Kd.C_below HRO.out H.out.bl) (i:Int) (by omega) (by omega)
        subst hAd
        obtain⟨dd,hdd⟩: ∃d,l[i]=d:=⟨_,rfl⟩
        have hrd:rd_T109 l (i:Int)=dd:=by simp[rd_T109,hlt,hdd]
        rw[hrd,Int.toNat_natCast]at g0 g1 g2
        have hmem:dd∈l:=hdd ▸ List.getElem_mem _
        have htk:=depsE_take v T2 l i hlt
        rw[hdd]at htk
        have hdf:=HM.out.d dd hmem
        have hdg:=HDR.out dd hmem
        have hdn:v≠1→dd.f0∈T2:=fun h=>HIN.out h dd.f0 (by unfold namesL;rw[List.mem_append];exact .inl (List.mem_cons_of_mem _ (List.mem_map.2 ⟨dd,hmem,rfl⟩)))
        have hle:=depsE_len v T2 (by omega) (l.take i) (fun y hy=>⟨(HM.out.d y (List.mem_of_mem_take hy)).2.1,(HDR.out y (List.mem_of_mem_take hy)).2⟩)
        rw[List.length_take]at hle
        obtain⟨s,hh,o⟩:=dd
        dsimp only at g0 g1 g2 hdf hdg hdn htk
        obtain⟨PD,hPD⟩: ∃p,P++depsE v T2 (l.take i)=p:=⟨_,rfl⟩
        have lPD:PD.length≤2000:=by rw[←hPD,List.length_append];omega
        have hnx:P++depsE v T2 (l.take (i+1))=(PD++depE v T2 ⟨s,hh,o⟩)++ints (vb hh.toNat):=by rw[htk,←hPD];simp only[List.append_assoc]
        rw[hPD]
        have hDe:=depE_len v T2 (by omega) ⟨s,hh,o⟩ hdf.2.1
        have hHe:=vbI_len hh hdg.2
        have HPU:=Lib.hid (fun(W':World)=>put1_any hh hdg W')
        have HNX:=Lib.hid hnx
        have hC2r:Kd.C Kd.string wr A2 T2.length T2:=by
         obtain⟨A',c',e,_,h2⟩:=H.out.tab
         injection e with e1 e2 e3
         subst e1
         exact h2
        have HTX:=Lib.hid (fun(W':World) (hb:Below wr.heap.size wr W')=>rtext9_any v A2 c2 T2 s W' (Kd.C_below hC2r hb) hc2 (by omega) (by have:=hdf.2.1;omega) hdn)
        have hde:depE v T2 ⟨s,hh,o⟩=textE v T2 s:=by unfold depE;rw[if_pos (by have:=HV.out;omega)]
        rw[hde]at hDe HNX
        clear htk hdd hrd hmem hdf hdg hdn hle hPD hnx hC2r hde
        generalize textE v T2 s=t1 at*
        generalize ints (vb hh.toNat)=t2 at*
        have hadd1:=add_str PD t1 (by omega)
        have hadd2:=add_str (PD++t1) t2 (by rw[List.length_append];omega)
        have hba:Below wr.heap.size wr (wr.alloc (.cells #[.string s, .int .u64 hh, .bool o] 109)):=(Below.refl _ _).alloc (Nat.le_refl _) _
        have hka:(wr.alloc (.cells #[.string s, .int .u64 hh, .bool o] 109)).heap[wr.heap.size]? =some (.cells #[.string s, .int .u64 hh, .bool o] 109 (0,0)):=heap_new _ _
        have HBA:=Lib.hid hba
        have HKA:=Lib.hid hka
        clear hba hka
        go_wp2_with fail
        refine(HTX.out _ HBA.out).mono ?_
        rintro e wb ⟨rfl,hb⟩
        have hk:=blk_below HKA.out hb
        have e1:wb.cell? ⟨wr.heap.size,1,none⟩=some (.int .u64 hh):=(blk_cell hk 1).trans rfl
        have HB1:=Lib.hid (HBA.out.trans (hb.mono HBA.out.size))
        clear hb hk g0 g1 g2
        go_wp2_with fail
        refine(HPU.out wb).mono ?_
        rintro e wc ⟨rfl,hb⟩
        have HH:=Lib.hid (H.out.below (HB1.out.trans (hb.mono HB1.out.size)))
        clear hb e1
        go_wp2_with fail
        go_roundw
        case rel=>exact⟨i+1,by omega,by go_num,by rw[HNX.out,List.append_assoc],HH⟩
        case measure=>simp[intOf];omega
       ·obtain rfl:i=l.length:=by omega
        have hdl:decide ((l.length:Int)<(l.length:Int))=false:=decide_eq_false (by omega)
        rw[List.take_length]
        obtain⟨PE,hPE⟩: ∃p,P++depsE v T2 l=p:=⟨_,rfl⟩
        have hle:=depsE_len v T2 (by omega) l (fun y hy=>⟨(HM.out.d y hy).2.1,(HDR.out y hy).2⟩)
        have lPE:PE.length≤2000:=by rw[←hPE,List.length_append];omega
        rw[hPE]
        obtain⟨q4,hq4⟩: ∃q,ints (vb x4.toNat)=q:=⟨_,rfl⟩
        obtain⟨q5,hq5⟩: ∃q,ints (vb x5.toNat)=q:=⟨_,rfl⟩
        have l4:q4.length≤10:=by rw[←hq4];exact vbI_len x4 HR4.out.2
        have l5:q5.length≤10:=by rw[←hq5];exact vbI_len x5 HR5.out.2
        have HQ4:=Lib.hid (fun(W':World)=>put1_any x4 HR4.out W')
        have HQ5:=Lib.hid (fun(W':World)=>put1_any x5 HR5.out W')
        rw[hq4]at HQ4
        rw[hq5]at HQ5
        have hadd4:=add_str PE q4 (by omega)
        have hadd5:=add_str (PE++q4) q5 (by rw[List.length_append];omega)
        have HPE:=Lib.hid hPE
        have HQ45:=Lib.hid (And.intro hq4 hq5)
        clear hPE hle hq4 hq5
        have y4:(wr).cell? ⟨b5,4,none⟩=some (.int .u64 x4):=(blk_cell H.out.box 4).trans rfl
        go_wp2_with fail
        refine(HQ4.out wr).mono ?_
        rintro e wb ⟨rfl,hb⟩
        have HZ:=Lib.hid (H.out.below hb)
        clear hb y3 y4
        have y5:(wb).cell? ⟨b5,5,none⟩=some (.int .u64 x5):=(blk_cell HZ.out.box 5).trans rfl
        go_wp2_with fail
        refine(HQ5.out wb).mono ?_
        rintro e wc ⟨rfl,hb⟩
        have HZ:=Lib.hid (HZ.out.below hb)
        clear hb y5
        have HLE:Hid (lastE v T2 k0 x1 x2 l x4 x5 x6=PE++(q4++q5)):=Lib.hid (by
         unfold lastE bodyE
         rw[if_neg HKN.out.2,if_pos (show 2≤v by have:=HV.out;omega),if_neg (show ¬3≤v by have:=HV.out;omega),HQ45.out.2,←HPE.out,←HPP.out,←HP0.out,←HQE.out.1,←HQE.out.2.1,←HQE.out.2.2.1,←HQE.out.2.2.2,←HQ45.out.1,HKN.out.1,Int.toNat_natCast]
         rw[show ints (vb ((1:Int).toNat))=[1] from vb_k 1 (by omega)]
         simp only[List.append_assoc,List.append_nil])
        have hmr:(rows.map strOfNums).length≤1000000:=by rw[List.length_map];have:=HRL.out;omega
        go_wp2_with (at_builtin;refine Halt.mk ?_)
        refine Halt.of ?_
        have hb4:Below wc.heap.size wc (wc.alloc (.cells #[.string (strOfNums (PE++(q4++q5)))] 9)):=(Below.refl _ _).alloc (Nat.le_refl _) _
        have hk4:(wc.alloc (.cells #[.string (strOfNums (PE++(q4++q5)))] 9)).heap[wc.heap.size]? =some (.cells #[.string (strOfNums (PE++(q4++q5)))] 9 (0,0)):=heap_new _ _
        have hZ4:=HZ.out.below hb4
        refine Kd.R_append_rows Kd.string (w0:=Wq) Wq.heap.size rfl (.tmp 164) (.tmp 166) 45 9 (.string ⟨#[]⟩) 16 rfl Try.underlying45 info_str9 rfl (by decide) (by omega) _ (rows.map strOfNums) [strOfNums (PE++(q4++q5))] _ _ _ (fun _=>True) (fun _=>False) rfl rfl hZ4.rw (row_val _ hk4) ?_ (fun _ h=>h.elim) (fun _ _=>trivial) hZ4.bl hZ4.bl.size (by omega) ?_
        ·rintro _ _ ⟨rfl,rfl⟩;rfl
        intro v6 w6 hR6 hb6 hg6 hat6
        have e6:rows.map strOfNums++[strOfNums (PE++(q4++q5))]=((rows++[(PE++(q4++q5))]).map strOfNums):=by rw[List.map_append];rfl
        rw[e6]at hR6
        have h6:=hZ4.pushed hR6 hb6 hg6 hat6
        obtain⟨A8,c8,e8,hc8,hC8⟩:=h6.tab
        obtain⟨rfl,_,rfl⟩:A2=A8∧T2.length=T2.length∧c2=c8:=by injection e8 with a1 a2 a3;exact⟨a1,a2,a3⟩
        have HE:=Lib.hid (And.intro h6 (And.intro hc8 hC8))
        obtain⟨Ar,cr,e9⟩:=Kd.R_slice hR6
        rw[List.length_map,List.length_append,List.length_singleton]at e9
        subst e9
        clear hR6 hb6 hg6 hat6 e6 h6 e8 hc8 hC8 hb4 hk4 hZ4
        go_wp2_with fail
        go_ret3
        obtain⟨h6,hc8,hC8⟩:=HE.out
        refine⟨_,A2,c2,rfl, ?_,hc8,hC8,h6.bl,h6.tb.imp (fun h=>by obtain⟨e1,e2⟩:=h;injection e2 with a1 a2 a3;exact⟨a1,a3,e1⟩) (fun hR=>Kd.R_mono hR (fun _ _=>trivial))⟩
        have h9:=h6.rw
        show Kd.R Kd.string 9 _ _ _ _ ((rows++[lastE v T2 k0 x1 x2 l x4 x5 x6]).map strOfNums)
        rw[HLE.out]
        first|exact h9|(rw[moreE_self];exact h9)
    ·have hkd:(k0==1)=false:=by rw[hk];rfl
     have hkd2:decide (k0=1)=false:=decide_eq_false (by omega)
     have y0:(W).cell? ⟨b5,0,none⟩=some (.int .i64 k0):=(blk_cell HBX.out 0).trans rfl
     have HZ:=HX
     have HLE:Hid (lastE v T2 k0 x1 x2 l x4 x5 x6=p0):=Lib.hid (by
      unfold lastE
      rw[if_pos hk,List.append_nil,←HP0.out,←HQE.out.1,←HQE.out.2.1,hk]
      rw[show ints (vb ((2:Int).toNat))=[2] from vb_k 2 (by omega)])
     clear hk
     have hmr:(rows.map strOfNums).length≤1000000:=by rw[List.length_map];have:=HRL.out;omega
     go_wp2_with (at_builtin;refine Halt.mk ?_)
     refine Halt.of ?_
     have hb4:Below W.heap.size W (W.alloc (.cells #[.string (strOfNums p0)] 9)):=(Below.refl _ _).alloc (Nat.le_refl _) _
     have hk4:(W.alloc (.cells #[.string (strOfNums p0)] 9)).heap[W.heap.size]? =some (.cells #[.string (strOfNums p0)] 9 (0,0)):=heap_new _ _
     have hZ4:=HZ.out.below hb4
     refine Kd.R_append_rows Kd.string (w0:=Wq) Wq.heap.size rfl (.tmp 164) (.tmp 166) 45 9 (.string ⟨#[]⟩) 16 rfl Try.underlying45 info_str9 rfl (by decide) (by omega) _ (rows.map strOfNums) [strOfNums p0] _ _ _ (fun _=>True) (fun _=>False) rfl rfl hZ4.rw (row_val _ hk4) ?_ (fun _ h=>h.elim) (fun _ _=>trivial) hZ4.bl hZ4.bl.size (by omega) ?_
     ·rintro _ _ ⟨rfl,rfl⟩;rfl
     intro v6 w6 hR6 hb6 hg6 hat6
     have e6:rows.map strOfNums++[strOfNums p0]=((rows++[p0]).map strOfNums):=by rw[List.map_append];rfl
     rw[e6]at hR6
     have h6:=hZ4.pushed hR6 hb6 hg6 hat6
     obtain⟨A8,c8,e8,hc8,hC8⟩:=h6.tab
     obtain⟨rfl,_,rfl⟩:A2=A8∧T2.length=T2.length∧c2=c8:=by injection e8 with a1 a2 a3;exact⟨a1,a2,a3⟩
     have HE:=Lib.hid (And.intro h6 (And.intro hc8 hC8))
     obtain⟨Ar,cr,e9⟩:=Kd.R_slice hR6
     rw[List.length_map,List.length_append,List.length_singleton]at e9
     subst e9
     clear hR6 hb6 hg6 hat6 e6 h6 e8 hc8 hC8 hb4 hk4 hZ4
     go_wp2_with fail
     go_ret3
     obtain⟨h6,hc8,hC8⟩:=HE.out
     refine⟨_,A2,c2,rfl, ?_,hc8,hC8,h6.bl,h6.tb.imp (fun h=>by obtain⟨e1,e2⟩:=h;injection e2 with a1 a2 a3;exact⟨a1,a3,e1⟩) (fun hR=>Kd.R_mono hR (fun _ _=>trivial))⟩
     have h9:=h6.rw
     show Kd.R Kd.string 9 _ _ _ _ ((rows++[lastE v T2 k0 x1 x2 l x4 x5 x6]).map strOfNums)
     rw[HLE.out]
     first|exact h9|(rw[moreE_self];exact h9)
set_option maxHeartbeats 8000000 in
set_option maxRecDepth 100000 in
theorem rput9_3 (Wq:World) (v:Int) (A:Option Addr) (c:Nat) (T:List ByteArray) (hC:Kd.C Kd.string Wq A T.length T) (hc:T.length≤c) (hT:T.length≤100000) (k0:Int) (x1:ByteArray) (x2:Int) (B:Option Addr) (d:Nat) (l:List S109) (x4 x5:Int) (x6:ByteArray)
  (hrow:Kd.C k109 Wq B l.length l) (hd:l.length≤d) (hok:RecOk x1 l x6) (hv:v=3) (hm:mayB v k0 x1 x2 l x4 x5 x6=true) (h2:0≤x2∧x2<18446744073709551616) (h4:0≤x4∧x4<18446744073709551616) (h5:0≤x5∧x5<18446744073709551616) (hdr: ∀y∈l,0≤y.f1∧y.f1<18446744073709551616):
  Calls Try.prog 32 #[.int .i64 v, .slice A T.length c, .agg #[.int .i64 k0, .string x1, .int .u64 x2, .slice B l.length d, .int .u64 x4, .int .u64 x5, .string x6]] Wq (RPutPost Wq A c T (putF v T k0 x1 x2 l x4 x5 x6)):=by
 have hpf:putF v T k0 x1 x2 l x4 x5 x6=((moreE T (tnewOn T (tnew (namesL x1 l x6))))++[lastE v (tnewOn T (tnew (namesL x1 l x6))) k0 x1 x2 l x4 x5 x6],(tnewOn T (tnew (namesL x1 l x6))),0):=by
  unfold putF
  rw[if_pos (show 1≤v∧v≤3 by omega),if_pos hm]
  rw[if_pos (show 1<v by omega)]
 rw[hpf]
 obtain⟨wz,hwz⟩: ∃wz,(Wq.alloc (.cells #[.int .i64 k0, .string x1, .int .u64 x2, .slice B l.length d, .int .u64 x4, .int .u64 x5, .string x6] 62)).alloc (.cells #[] 9)=wz:=⟨_,rfl⟩
 have hbz:Below Wq.heap.size Wq wz:=by rw[←hwz];exact((Below.refl _ _).alloc (Nat.le_refl _) _).alloc (by rw[heap_size_alloc];omega) _
 have hkz:wz.heap[Wq.heap.size]? =some (.cells #[.int .i64 k0, .string x1, .int .u64 x2, .slice B l.length d, .int .u64 x4, .int .u64 x5, .string x6] 62 (0,0)):=by rw[←hwz,heap_new_old _ _ _ (by rw[heap_size_alloc];omega)];exact heap_new _ _
 have hke:wz.heap[Wq.heap.size+1]? =some (.cells #[] 9 (0,0)):=by rw[←hwz];exact heap_new2 _ _ _
 obtain⟨b5,hb5⟩: ∃b,Wq.heap.size=b:=⟨_,rfl⟩
 rw[hb5]at hkz hke
 have hre:=R_empty Kd.string wz Wq.heap.size (b5+1) 9 (fun _=>True) hke (by omega) trivial
 have M:=may_facts hm
 have HMY:=Lib.hid (rmay_any v k0 x1 x2 l x4 x5 x6 B d wz (Kd.C_below hrow hbz))
 rw[hm]at HMY
 have HC:=Lib.hid hC
 have HRO:=Lib.hid hrow
 have HBZ:=Lib.hid hbz
 have HKZ:=Lib.hid hkz
 have HWZ:=Lib.hid hwz
 have HREZ:=Lib.hid hre
 have HB5:=Lib.hid hb5
 have HM:=Lib.hid M
 have HR2:=Lib.hid h2
 have HR4:=Lib.hid h4
 have HR5:=Lib.hid h5
 have HDR:=Lib.hid hdr
 have HV:=Lib.hid hv
 have HKW:=Lib.hid (show IntKind.u64.wrap k0=k0 by have:=M.k;rw[IntKind.wrap_u64];omega)
 have HLW:=Lib.hid (show IntKind.u64.wrap (l.length:Int)=(l.length:Int)by have:=M.n;rw[IntKind.wrap_u64];omega)
 have hln:l.length≤16:=M.n
 have HNM:=Lib.hid (fun(Wq':World) (hb:Below Wq.heap.size Wq Wq')=>tephraref08_Names.calls 6001 k0 x1 x2 B d l x4 x5 x6 _ Wq' (Kd.C_below hrow hb) hd (names_is k0 x1 x2 l x4 x5 x6 (by omega) _ (by omega)))
 have d1:decide (v<1)=false:=decide_eq_false (by omega)
 have d3:decide (3<v)=false:=decide_eq_false (by omega)
 have d2:decide (1<v)=true:=decide_eq_true (by omega)
 have d4:decide (v<3)=false:=decide_eq_false (by omega)
 have d5:decide (2<v)=true:=decide_eq_true (by omega)
 clear hpf hC hrow hbz hkz hke hre hwz hb5 M h2 h4 h5 hdr hm hv hok
 go_enter Try.func32,Try.ntmps32
 go_wp2_with fail
 rw[HWZ.out,HB5.out]
 refine HMY.out.mono ?_
 rintro e wa ⟨rfl,hb⟩
 have HBA:=Lib.hid (HBZ.out.trans (hb.mono HBZ.out.size))
 have HBX:=Lib.hid (blk_below HKZ.out hb)
 have HRE:=Lib.hid (Kd.R_below HREZ.out hb)
 clear hb HREZ HWZ HKZ
 obtain⟨y0,y1,y2,y3,y4,y5,y6⟩:=facts7 HBX.out
 go_wp2_with fail
 clear y0 y1 y2 y3 y4 y5 y6
 refine(HNM.out wa HBA.out).mono ?_
 rintro e wb ⟨vn,rfl,hRn,hb⟩
 obtain⟨An,cn,rfl⟩:=Kd.R_slice hRn
 have HNS:=Lib.hid (names_few (x1:=x1) (l:=l) (x6:=x6) HM.out.t.2 HM.out.n (fun d hd=>(HM.out.d d hd).2.1) HM.out.tag.1)
 generalize hns:tnew (namesL x1 l x6)=ns at*
 have HNN:=Lib.hid hns
 have hbb:Below Wq.heap.size Wq wb:=HBA.out.trans (hb.mono HBA.out.size)
 have hsa:b5+1<wa.heap.size:=(own_typed_R HRE.out (b5+1) rfl).2.1
 have hst:RPSt Wq wb b5 #[.int .i64 k0, .string x1, .int .u64 x2, .slice B l.length d, .int .u64 x4, .int .u64 x5, .string x6] A c T (.slice A T.length c) T (.slice (some ⟨b5+1,0,none⟩) 0 0) [] (.slice An ns.length cn) ns:=
  ⟨hbb,blk_below HBX.out hb,⟨HC.out,hc⟩, .inl ⟨rfl,rfl⟩,Kd.R_below HRE.out hb,Kd.R_mono (Kd.R_lower (Kd.R_bound hRn) HBA.out.size) (fun k hk e=>by injection e with e;replace e:k=b5+1:=e;have:=hk.2.1;have:=HB5.out;omega)⟩
 have HST:=Lib.hid hst
 clear hb hbb hRn hst hns HBX HRE HNM HBA hsa
 go_wp2_with fail
 go_loopw [1,9,11] (fun u1 u9 u11 wr=>∃(i:Nat),i≤ns.length∧u11= .int .i64 (i:Int)∧Hid (RPSt Wq wr b5 #[.int .i64 k0, .string x1, .int .u64 x2, .slice B l.length d, .int .u64 x4, .int .u64 x5, .string x6] A c T u1 (tnewOn T (ns.take i)) u9 (moreE T (tnewOn T (ns.take i))) (.slice An ns.length cn) ns)) (fun _ _ u _=>ns.length-(intOf u).toNat)
 case atStart=>exact⟨0,by omega,rfl,Lib.hid (by rw[List.take_zero,show tnewOn T []=T from rfl,moreE_self];exact HST.out)⟩
 case round=>
  clear HST
  obtain⟨i,hi,rfl,H⟩:=hrel
  have hn18:=HNS.out.1
  by_cases hlt:i<ns.length
  ·have hdl:decide ((i:Int)<(ns.length:Int))=true:=decide_eq_true (by omega)
   obtain⟨adn,hAn,hcell⟩:=Kd.at_string (Kd.R_reads' H.out.nm).2.2 (i:Int) (by omega) (by omega)
   subst hAn
   rw[Int.toNat_natCast]at hcell
   obtain⟨s,hs⟩: ∃s,ns[i]=s:=⟨_,rfl⟩
   have hrd:rdOf ByteArray.empty ns (i:Int)=s:=by simp[rdOf,hlt,hs]
   rw[hrd]at hcell
   have HRD:=Lib.hid hrd
   have hsz:=HNS.out.2 s (hs ▸ List.getElem_mem _)
   have htk:=tnewOn_take T ns i hlt
   rw[hs]at htk
   have hll:=tnewOn_len T (ns.take i)
   have hge:=tnewOn_ge T (ns.take i)
   rw[List.length_take]at hll
   generalize tnewOn T (ns.take i)=L at*
   obtain⟨A2,c2,rfl,hc2,hC2⟩:=H.out.tab
   have HPL:=Lib.hid (tephraref07_Place.calls (L.length+1) A2 c2 L s (posI8 L s) wr hC2 hc2 (place_is8 L (by omega) s _ (by omega)))
   have hpd:decide (posI8 L s<0)= !(isIn L s):=by
    unfold posI8
    cases isIn L s with
    |true=>simp
    |false=>simp
   have HTK:=Lib.hid htk
   have HSZ:=Lib.hid (And.intro hsz (And.intro hll hge))
   clear hrd hs htk hsz hll hge hC2
   by_cases hin:s∈L
   ·rw[isIn_iff.2 hin,Bool.not_true]at hpd
    have HMO:=Lib.hid (And.intro (moreE_in (T:=T) hin) (tput_in hin))
    generalize posI8 L s=q at HPL hpd
    clear hin
    go_wp2_with fail
    refine HPL.out.mono ?_
    rintro e wc ⟨rfl,hdr⟩
    have hb:=hdr.below
    have HH:=Lib.hid (H.out.below hb)
    clear hdr hb hcell
    go_wp2_with fail
    go_roundw
    case rel=>exact⟨i+1,by omega,by go_num,Lib.hid (by rw[HTK.out,HMO.out.2];exact HH.out)⟩
    case measure=>simp[intOf];omega
   ·rw[isIn_ne.2 hin,Bool.not_false]at hpd
    have HMO:=Lib.hid (moreE_out (T:=T) HSZ.out.2.2 hin)
    have hadd:=add_def s (by have:=HSZ.out.1;omega)
    have HNI:=Lib.hid hin
    generalize posI8 L s=q at HPL hpd
    clear hin
    go_wp2_with fail
    refine HPL.out.mono ?_
    rintro e wc ⟨rfl,hdr⟩
    have hb:=hdr.below
    have HH:=Lib.hid (H.out.below hb)
    have hcell2:=pw_cell_below hb hcell
    clear hdr hb hcell
    obtain⟨A9,c9,e9⟩:=Kd.R_slice HH.out.rw
    rw[List.length_map]at e9
    subst e9
    have hmr:((moreE T L).map strOfNums).length≤1000000:=by have:=HSZ.out.2.1;rw[List.length_map];unfold moreE;rw[List.length_map,List.length_drop];omega
    go_wp2_with (at_builtin;refine Halt.mk ?_)
    refine Halt.of ?_
    have hb4:Below wc.heap.size wc (wc.alloc (.cells #[.string (strOfNums (defE s))] 9)):=(Below.refl _ _).alloc (Nat.le_refl _) _
    have hk4:(wc.alloc (.cells #[.string (strOfNums (defE s))] 9)).heap[wc.heap.size]? =some (.cells #[.string (strOfNums (defE s))] 9 (0,0)):=heap_new _ _
    have hH4:=HH.out.below hb4
    refine Kd.R_append_rows Kd.string (w0:=Wq) Wq.heap.size rfl (.tmp 48) (.tmp 54) 45 9 (.string ⟨#[]⟩) 16 rfl Try.underlying45 info_str9 rfl (by decide) (by omega) _ ((moreE T L).map strOfNums) [strOfNums (defE s)] _ _ _ (fun _=>True) (fun _=>False) rfl rfl hH4.rw (row_val _ hk4) ?_ (fun _ h=>h.elim) (fun _ _=>trivial) hH4.bl hH4.bl.size (by omega) ?_
    ·rintro _ _ ⟨rfl,rfl⟩;rfl
    intro v6 w6 hR6 hb6 hg6 hat6
    have e6:(moreE T L).map strOfNums++[strOfNums (defE s)]=((moreE T L++[defE s]).map strOfNums):=by rw[List.map_append];rfl
    rw[e6]at hR6
    have h6:=hH4.pushed hR6 hb6 hg6 hat6
    obtain⟨A6,c6,e6v,hc6,hC6⟩:=h6.tab
    obtain⟨rfl,_,rfl⟩:A2=A6∧L.length=L.length∧c2=c6:=by injection e6v with a1 a2 a3;exact⟨a1,a2,a3⟩
    have HTP:=Lib.hid (rtput_any A2 c2 L s w6 hC6 hc6 (by have:=HSZ.out.2.1;omega))
    obtain⟨ad9,hA9,hcell6⟩:=Kd.at_string (Kd.R_reads' h6.nm).2.2 (i:Int) (by omega) (by omega)
    obtain rfl:adn=ad9:=Option.some.inj hA9
    rw[Int.toNat_natCast,HRD.out]at hcell6
    have H6:=Lib.hid h6
    clear hR6 hb6 hg6 hat6 e6 h6 e6v hC6 hA9 hb4 hk4 hH4 hcell2 hadd HPL
    go_wp2_with fail
    refine HTP.out.mono ?_
    rintro e w7 ⟨A7,c7,rfl,hc7,hC7,hb7,hR7⟩
    have H7:=Lib.hid (H6.out.tabled hb7 (hR7 HNI.out))
    clear hC7 hb7 hR7 hcell6 HTP H6
    go_wp2_with fail
    go_roundw
    case rel=>exact⟨i+1,by omega,by go_num,Lib.hid (by rw[HTK.out,HMO.out];exact H7.out)⟩
    case measure=>simp[intOf];omega
  ·obtain rfl:i=ns.length:=by omega
   rw[List.take_of_length_le (Nat.le_refl _)]at H
   have hrl:(moreE T (tnewOn T ns)).length≤100:=by unfold moreE;rw[List.length_map,List.length_drop];have:=tnewOn_len T ns;omega
   have hin:v≠1→∀s∈namesL x1 l x6,s∈tnewOn T ns:=fun _ s hs=>by rw[mem_tnewOn,←HNN.out,mem_tnew];exact .inr hs
   have hT2:(tnewOn T ns).length≤200000:=by have:=tnewOn_len T ns;omega
   generalize tnewOn T ns=T2 at*
   generalize moreE T T2=rows at*
   obtain⟨A9,c9,e9⟩:=Kd.R_slice H.out.rw
   rw[List.length_map]at e9
   subst e9
   obtain⟨A2,c2,e2,hc2,hC2⟩:=H.out.tab
   subst e2
   have HC2:=Lib.hid hC2
   have HRW:=Lib.hid hrl
   have HRL:=Lib.hid hrl
   have HIN:=Lib.hid hin
   obtain⟨q0,hq0⟩: ∃q,ints (vb k0.toNat)=q:=⟨_,rfl⟩
   obtain⟨q1,hq1⟩: ∃q,textE v T2 x1=q:=⟨_,rfl⟩
   obtain⟨q2,hq2⟩: ∃q,ints (vb x2.toNat)=q:=⟨_,rfl⟩
   obtain⟨q3,hq3⟩: ∃q,ints (vb ((l.length:Int)).toNat)=q:=⟨_,rfl⟩
   have hK:=HM.out.k
   have l0:q0.length≤10:=by rw[←hq0];exact vbI_len k0 (by omega)
   have l1:q1.length≤74:=by rw[←hq1];exact textE_len v T2 (by omega) x1 HM.out.t.2
   have l2:q2.length≤10:=by rw[←hq2];exact vbI_len x2 HR2.out.2
   have l3:q3.length≤10:=by rw[←hq3];exact vbI_len (l.length:Int) (by omega)
   have HQ0:=Lib.hid (fun(W':World)=>put1_any k0 (by omega) W')
   have HQ1:=Lib.hid (fun(W':World) (hb:Below wr.heap.size wr W')=>rtext9_any v A2 c2 T2 x1 W' (Kd.C_below HC2.out hb) hc2 (by omega) (by have:=HM.out.t.2;omega) (fun h=>hin h x1 (by unfold namesL;simp)))
   have HQ2:=Lib.hid (fun(W':World)=>put1_any x2 HR2.out W')
   have HQ3:=Lib.hid (fun(W':World)=>put1_any (l.length:Int) (by omega) W')
   rw[hq0]at HQ0
   rw[hq1]at HQ1
   rw[hq2]at HQ2
   rw[hq3]at HQ3
   have HAD:=Lib.hid (add_str q0 q1 (by omega))
   obtain⟨p0,hp0⟩: ∃p,q0++q1=p:=⟨_,rfl⟩
   have lp0:p0.length≤84:=by rw[←hp0,List.length_append];omega
   have HAD2:=Lib.hid (add_str p0 q2 (by omega))
   have HAD3:=Lib.hid (add_str (p0++q2) q3 (by rw[List.length_append];omega))
   obtain⟨P,hP⟩: ∃p,p0++q2++q3=p:=⟨_,rfl⟩
   have lP:P.length≤104:=by rw[←hP,List.length_append,List.length_append];omega
   have HQE:=Lib.hid (And.intro hq0 (And.intro hq1 (And.intro hq2 hq3)))
   have HP0:=Lib.hid hp0
   have HPP:=Lib.hid hP
   have HBX:=Lib.hid H.out.box
   have HKK:=Lib.hid hK
   clear hC2 hq0 hq1 hq2 hq3 hp0 hP hin hK
   go_wp2_with fail
   refine region_calm (n:=11) (byList [isV (.pointer (some ⟨b5,0,none⟩)),isV (.int .i64 k0),isV (.int .u64 k0),isV (.string (strOfNums q0)),isV (.int .i64 v),isV (.slice A2 T2.length c2),isV (.pointer (some ⟨b5,1,none⟩)),isV (.string x1),isV (.string (strOfNums q1)),isV (.string (strOfNums (q0++q1))),isV (.string (strOfNums (q0++q1)))]) (by kernel_rfl) rfl (byList_lasts ?_) (by kernel_rfl) (by kernel_rfl) (by kernel_rfl) (show AllLt 11 _ from ?_) ?_
   ·intro p hp
    simp only[List.mem_cons,List.not_mem_nil,or_false]at hp
    rcases hp with rfl|rfl|rfl|rfl|rfl|rfl|rfl|rfl|rfl|rfl|rfl<;>first|exact isV_lasts|exact isC_lasts
   ·refine allLt_succ (allLt_succ (allLt_succ (allLt_succ (allLt_succ (allLt_succ (allLt_succ (allLt_succ (allLt_succ (allLt_succ (allLt_succ (allLt_zero _) ?_) ?_) ?_) ?_) ?_) ?_) ?_) ?_) ?_) ?_) ?_
    ·refine StepOk.run (get_lit rfl) rfl fun a W hS hB hd=> ?_
     have e5:=hS.get (t:=5) rfl rfl
     refine wp_value (c:= .pointer (some ⟨b5,0,none⟩)) ?_ rfl
     go_simp
    ·refine StepOk.run (get_lit rfl) rfl fun a W hS hB hd=> ?_
     have e62:=(hd 0 rfl).bool rfl rfl rfl
     refine wp_value (c:= .int .i64 k0) ?_ rfl
     have hx:=blk_below HBX.out hB
     have hcW:W.cell? ⟨b5,0,none⟩=some (.int .i64 k0):=(blk_cell hx 0).trans rfl
     go_simp
    ·refine StepOk.run (get_lit rfl) rfl fun a W hS hB hd=> ?_
     have e63:=(hd 1 rfl).bool rfl rfl rfl
     refine wp_value (c:= .int .u64 k0) ?_ rfl
     have hw:=HKW.out
     go_simp
    ·refine StepOk.run (get_lit rfl) rfl fun a W hS hB hd=> ?_
     have e64:=(hd 2 rfl).bool rfl rfl rfl
     refine wp_called Try.func67 (by kernel_rfl) rfl #[.int .u64 k0] rfl (by simp[Act.eval, *]) ?_
     refine(HQ0.out W).mono ?_
     rintro e w9 ⟨rfl,hb9⟩
     exact⟨_,rfl,rfl,hb9⟩
    ·refine StepOk.run (get_lit rfl) rfl fun a W hS hB hd=> ?_
     have e0:=hS.get (t:=0) rfl rfl
     refine wp_value (c:= .int .i64 v) ?_ rfl
     go_simp
    ·refine StepOk.run (get_lit rfl) rfl fun a W hS hB hd=> ?_
     have e1:=hS.get (t:=1) rfl rfl
     refine wp_value (c:= .slice A2 T2.length c2) ?_ rfl
     go_simp
    ·refine StepOk.run (get_lit rfl) rfl fun a W hS hB hd=> ?_
     have e5:=hS.get (t:=5) rfl rfl
     refine wp_value (c:= .pointer (some ⟨b5,1,none⟩)) ?_ rfl
     go_simp
    ·refine StepOk.run (get_lit rfl) rfl fun a W hS hB hd=> ?_
     have e68:=(hd 6 rfl).bool rfl rfl rfl
     refine wp_value (c:= .string x1) ?_ rfl
     have hx:=blk_below HBX.out hB
     have hcW:W.cell? ⟨b5,1,none⟩=some (.string x1):=(blk_cell hx 1).trans rfl
     go_simp
    ·refine StepOk.run (get_lit rfl) rfl fun a W hS hB hd=> ?_
     have e66:=(hd 4 rfl).bool rfl rfl rfl
     have e67:=(hd 5 rfl).bool rfl rfl rfl
     have e69:=(hd 7 rfl).bool rfl rfl rfl
     refine wp_called Try.func68 (by kernel_rfl) rfl #[.int .i64 v, .slice A2 T2.length c2, .string x1] rfl (by simp[Act.eval, *]) ?_
     refine(HQ1.out W hB).mono ?_
     rintro e w9 ⟨rfl,hb9⟩
     exact⟨_,rfl,rfl,hb9⟩
    ·refine StepOk.run (get_lit rfl) rfl fun a W hS hB hd=> ?_
     have e65:=(hd 3 rfl).bool rfl rfl rfl
     have e70:=(hd 8 rfl).bool rfl rfl rfl
     refine wp_value (c:= .string (strOfNums (q0++q1))) ?_ rfl
     have hadd:=HAD.out W
     go_simp
    ·refine StepOk.run (get_lit rfl) rfl fun a W hS hB hd=> ?_
     have e71:=(hd 9 rfl).bool rfl rfl rfl
     refine wp_value (c:= .string (strOfNums (q0++q1))) ?_ rfl
     go_simp
   ·intro a W hS hB hh
    have e12:a.tmps[12]? =some (.string (strOfNums (q0++q1))):=(hh 10 (by omega)).bool rfl rfl rfl
    have HBR:=Lib.hid hB
    obtain⟨zz,hlit,hzz⟩:=same_litz hS
    clear hh hS hB
    simp only[List.filterMap_cons,List.filterMap_nil,List.foldl_cons,List.foldl_nil,List.setIfInBounds_toArray,List.set_cons_zero,List.set_cons_succ]at hlit
    rw[hzz 12 _ e12]at hlit
    clear e12
    clear hzz;subst hlit
    have HX:=Lib.hid (H.out.below HBR.out)
    rw[HP0.out]
    clear HBX HQ0 HQ1 HAD H
    have HBX:=Lib.hid HX.out.box
    rcases HKK.out with hk|hk
    ·have hkd:(k0==1)=true:=by rw[hk];rfl
     have hkd2:decide (k0=1)=true:=decide_eq_true hk
     have hkn: ¬k0=2:=by omega
     have HKN:=Lib.hid (And.intro hk hkn)
     clear hk hkn
     have y0:(W).cell? ⟨b5,0,none⟩=some (.int .i64 k0):=(blk_cell HBX.out 0).trans rfl
     go_wp2_with fail
     clear y0
     refine region_calm2 (n:=12) (byList [isV (.string (strOfNums p0)),isV (.pointer (some ⟨b5,2,none⟩)),isV (.int .u64 x2),isV (.string (strOfNums q2)),isV (.string (strOfNums (p0++q2))),isV (.pointer (some ⟨b5,3,none⟩)),isV (.slice B l.length d),isV (.int .i64 (l.length:Int)),isV (.int .u64 (l.length:Int)),isV (.string (strOfNums q3)),isV (.string (strOfNums (p0++q2++q3))),isV (.string (strOfNums (p0++q2++q3)))]) (by kernel_rfl) rfl (byList_lasts ?_) (by kernel_rfl) (by kernel_rfl) (by kernel_rfl) (show AllLt 12 _ from ?_) ?_
     ·intro p hp
      simp only[List.mem_cons,List.not_mem_nil,or_false]at hp
      rcases hp with rfl|rfl|rfl|rfl|rfl|rfl|rfl|rfl|rfl|rfl|rfl|rfl<;>first|exact isV_lasts|exact isC_lasts
     ·refine allLt_succ (allLt_succ (allLt_succ (allLt_succ (allLt_succ (allLt_succ (allLt_succ (allLt_succ (allLt_succ (allLt_succ (allLt_succ (allLt_succ (allLt_zero _) ?_) ?_) ?_) ?_) ?_) ?_) ?_) ?_) ?_) ?_) ?_) ?_
      ·refine StepOk2.run (get_lit rfl) rfl fun a W hS hB hd hE=> ?_
       have e12:a.tmps[12]? =some (.string (strOfNums p0)):=hE.get (j:=11) rfl rfl rfl rfl
       refine wp_value (c:= .string (strOfNums p0)) ?_ rfl
       go_simp
      ·refine StepOk2.of ?_
       refine StepOk.run (get_lit rfl) rfl fun a W hS hB hd=> ?_
       have e5:=hS.get (t:=5) rfl rfl
       refine wp_value (c:= .pointer (some ⟨b5,2,none⟩)) ?_ rfl
       go_simp
      ·refine StepOk2.of ?_
       refine StepOk.run (get_lit rfl) rfl fun a W hS hB hd=> ?_
       have e76:=(hd 1 rfl).bool rfl rfl rfl
       refine wp_value (c:= .int .u64 x2) ?_ rfl
       have hx:=blk_below HBX.out hB
       have hcW:W.cell? ⟨b5,2,none⟩=some (.int .u64 x2):=(blk_cell hx 2).trans rfl
       go_simp
      ·refine StepOk2.of ?_
       refine StepOk.run (get_lit rfl) rfl fun a W hS hB hd=> ?_
       have e77:=(hd 2 rfl).bool rfl rfl rfl
       refine wp_called Try.func67 (by kernel_rfl) rfl #[.int .u64 x2] rfl (by simp[Act.eval, *]) ?_
       refine(HQ2.out W).mono ?_
       rintro e w9 ⟨rfl,hb9⟩
       exact⟨_,rfl,rfl,hb9⟩
      ·refine StepOk2.of ?_
       refine StepOk.run (get_lit rfl) rfl fun a W hS hB hd=> ?_
       have e75:=(hd 0 rfl).bool rfl rfl rfl
       have e78:=(hd 3 rfl).bool rfl rfl rfl
       refine wp_value (c:= .string (strOfNums (p0++q2))) ?_ rfl
       have hadd:=HAD2.out W
       go_simp
      ·refine StepOk2.of ?_
       refine StepOk.run (get_lit rfl) rfl fun a W hS hB hd=> ?_
       have e5:=hS.get (t:=5) rfl rfl
       refine wp_value (c:= .pointer (some ⟨b5,3,none⟩)) ?_ rfl
       go_simp
      ·refine StepOk2.of ?_
       refine StepOk.run (get_lit rfl) rfl fun a W hS hB hd=> ?_
       have e80:=(hd 5 rfl).bool rfl rfl rfl
       refine wp_value (c:= .slice B l.length d) ?_ rfl
       have hx:=blk_below HBX.out hB
       have hcW:W.cell? ⟨b5,3,none⟩=some (.slice B l.length d):=(blk_cell hx 3).trans rfl
       go_simp
      ·refine StepOk2.of ?_
       refine StepOk.run (get_lit rfl) rfl fun a W hS hB hd=> ?_
       have e81:=(hd 6 rfl).bool rfl rfl rfl
       refine wp_value (c:= .int .i64 (l.length:Int)) ?_ rfl
       go_simp
      ·refine StepOk2.of ?_
       refine StepOk.run (get_lit rfl) rfl fun a W hS hB hd=> ?_
       have e82:=(hd 7 rfl).bool rfl rfl rfl
       refine wp_value (c:= .int .u64 (l.length:Int)) ?_ rfl
       have hw:=HLW.out
       go_simp
      ·refine StepOk2.of ?_
       refine StepOk.run (get_lit rfl) rfl fun a W hS hB hd=> ?_
       have e83:=(hd 8 rfl).bool rfl rfl rfl
       refine wp_called Try.func67 (by kernel_rfl) rfl #[.int .u64 (l.length:Int)] rfl (by simp[Act.eval, *]) ?_
       refine(HQ3.out W).mono ?_
       rintro e w9 ⟨rfl,hb9⟩
       exact⟨_,rfl,rfl,hb9⟩
      ·refine StepOk2.of ?_
       refine StepOk.run (get_lit rfl) rfl fun a W hS hB hd=> ?_
       have e79:=(hd 4 rfl).bool rfl rfl rfl
       have e84:=(hd 9 rfl).bool rfl rfl rfl
       refine wp_value (c:= .string (strOfNums (p0++q2++q3))) ?_ rfl
       have hadd:=HAD3.out W
       go_simp
      ·refine StepOk2.of ?_
       refine StepOk.run (get_lit rfl) rfl fun a W hS hB hd=> ?_
       have e85:=(hd 10 rfl).bool rfl rfl rfl
       refine wp_value (c:= .string (strOfNums (p0++q2++q3))) ?_ rfl
       go_simp
     ·intro a W hS hB hh
      have e12:a.tmps[12]? =some (.string (strOfNums (p0++q2++q3))):=(hh 11 (by omega)).bool rfl rfl rfl
      have HBR:=Lib.hid hB
      obtain⟨zz,hlit,hzz⟩:=same_litz hS
      clear hh hS hB
      simp only[List.filterMap_cons,List.filterMap_nil,List.foldl_cons,List.foldl_nil,List.setIfInBounds_toArray,List.set_cons_zero,List.set_cons_succ]at hlit
      rw[hzz 12 _ e12]at hlit
      clear e12
      clear hzz;subst hlit
      rw[HPP.out]
      have HX2:=Lib.hid (HX.out.below HBR.out)
      clear HBX HX HQ2 HQ3 HAD2 HAD3
      have y3:(W).cell? ⟨b5,3,none⟩=some (.slice B l.length d):=(blk_cell HX2.out.box 3).trans rfl
      go_wp2_with fail
      clear y3
      go_loopw [12,13] (fun u12 u13 wr=>∃(i:Nat),i≤l.length∧u13= .int .i64 (i:Int)∧u12= .string (strOfNums (P++depsE v T2 (l.take i)))∧Hid (RPSt Wq wr b5 #[.int .i64 k0, .string x1, .int .u64 x2, .slice B l.length d, .int .u64 x4, .int .u64 x5, .string x6] A c T (.slice A2 T2.length c2) T2 (.slice A9 rows.length c9) rows (.slice An ns.length cn) ns)) (fun _ u _=>l.length-(intOf u).toNat)
      case atStart=>exact⟨0,by omega,rfl,by simp[depsE],HX2⟩
      case round=>
       clear HX2
       obtain⟨i,hi,rfl,rfl,H⟩:=hrel
       have y3:(wr).cell? ⟨b5,3,none⟩=some (.slice B l.length d):=(blk_cell H.out.box 3).trans rfl
       by_cases hlt:i<l.length
       ·have hdl:decide ((i:Int)<(l.length:Int))=true:=decide_eq_true (by omega)
        obtain⟨ad,hAd,g0,g1,g2⟩:=at_T109 (Kd.C_below HRO.out H.out.bl) (i:Int) (by omega) (by omega)
        subst hAd
        obtain⟨dd,hdd⟩: ∃d,l[i]=d:=⟨_,rfl⟩
        have hrd:rd_T109 l (i:Int)=dd:=by simp[rd_T109,hlt,hdd]
        rw[hrd,Int.toNat_natCast]at g0 g1 g2
        have hmem:dd∈l:=hdd ▸ List.getElem_mem _
        have htk:=depsE_take v T2 l i hlt
        rw[hdd]at htk
        have hdf:=HM.out.d dd hmem
        have hdg:=HDR.out dd hmem
        have hdn:v≠1→dd.f0∈T2:=fun h=>HIN.out h dd.f0 (by unfold namesL;rw[List.mem_append];exact .inl (List.mem_cons_of_mem _ (List.mem_map.2 ⟨dd,hmem,rfl⟩)))
        have hle:=depsE_len v T2 (by omega) (l.take i) (fun y hy=>⟨(HM.out.d y (List.mem_of_mem_take hy)).2.1,(HDR.out y (List.mem_of_mem_take hy)).2⟩)
        rw[List.length_take]at hle
        obtain⟨s,hh,o⟩:=dd
        dsimp only at g0 g1 g2 hdf hdg hdn htk
        obtain⟨PD,hPD⟩: ∃p,P++depsE v T2 (l.take i)=p:=⟨_,rfl⟩
        have lPD:PD.length≤2000:=by rw[←hPD,List.length_append];omega
        have hnx:P++depsE v T2 (l.take (i+1))=(PD++depE v T2 ⟨s,hh,o⟩)++ints (vb hh.toNat):=by rw[htk,←hPD];simp only[List.append_assoc]
        rw[hPD]
        have hDe:=depE_len v T2 (by omega) ⟨s,hh,o⟩ hdf.2.1
        have hHe:=vbI_len hh hdg.2
        have HPU:=Lib.hid (fun(W':World)=>put1_any hh hdg W')
        have HNX:=Lib.hid hnx
        have hC2r:Kd.C Kd.string wr A2 T2.length T2:=by
         obtain⟨A',c',e,_,h2⟩:=H.out.tab
         injection e with e1 e2 e3
         subst e1
         exact h2
        have hde:depE v T2 ⟨s,hh,o⟩=ints (vb (2*atI T2 s+(if o=true then 1 else 0)).toNat):=by unfold depE;rw[if_neg (by have:=HV.out;omega)]
        rw[hde]at hDe HNX
        have hsT:=hdn (by have:=HV.out;omega)
        have hat:=atI_bd T2 s (by omega)
        have hPl: ∀W',Below wr.heap.size wr W'→_:=fun W' hb=>tephraref07_Place.calls (T2.length+1) A2 c2 T2 s (posI8 T2 s) W' (Kd.C_below hC2r hb) hc2 (place_is8 T2 (by omega) s _ (by omega))
        rw[atI_pos hsT]at hPl
        obtain⟨n,hn⟩: ∃n,atI T2 s=n:=⟨_,rfl⟩
        rw[hn]at hPl hat hDe HNX
        have HPL:=Lib.hid hPl
        clear htk hdd hrd hmem hdf hdg hdn hle hPD hnx hC2r hde hPl hsT hn
        have kw1:IntKind.u64.wrap n=n:=by rw[IntKind.wrap_u64];omega
        have kw2:IntKind.u64.wrap (2*n)=2*n:=by rw[IntKind.wrap_u64];omega
        have kw3:IntKind.u64.wrap (2*n+1)=2*n+1:=by rw[IntKind.wrap_u64];omega
        have HK1:=Lib.hid kw1
        have HK2:=Lib.hid kw2
        have HK3:=Lib.hid kw3
        clear kw1 kw2 kw3
        generalize ints (vb hh.toNat)=t2 at*
        have hba:Below wr.heap.size wr (wr.alloc (.cells #[.string s, .int .u64 hh, .bool o] 109)):=(Below.refl _ _).alloc (Nat.le_refl _) _
        have hka:(wr.alloc (.cells #[.string s, .int .u64 hh, .bool o] 109)).heap[wr.heap.size]? =some (.cells #[.string s, .int .u64 hh, .bool o] 109 (0,0)):=heap_new _ _
        have HBA:=Lib.hid hba
        have HKA:=Lib.hid hka
        clear hba hka
        go_wp2_with fail
        refine(HPL.out _ HBA.out).mono ?_
        rintro e wb ⟨rfl,hdr⟩
        have hb:=hdr.below
        have hk:=blk_below HKA.out hb
        have HB1:=Lib.hid (HBA.out.trans (hb.mono HBA.out.size))
        have HKB:=Lib.hid hk
        clear hb hk hdr g0 g1 g2
        have e1:wb.cell? ⟨wr.heap.size,1,none⟩=some (.int .u64 hh):=(blk_cell HKB.out 1).trans rfl
        have e2:wb.cell? ⟨wr.heap.size,2,none⟩=some (.bool o):=(blk_cell HKB.out 2).trans rfl
        have kw1:=HK1.out
        have kw2:=HK2.out
        have kw3:=HK3.out
        cases o with
        |true=>
         obtain⟨m,hm⟩: ∃m,2*n+1=m:=⟨_,rfl⟩
         have hdm:ints (vb (2*n+(if true=true then 1 else 0)).toNat)=ints (vb m.toNat):=by rw[if_pos rfl,hm]
         rw[hdm]at hDe HNX
         have HP1:=Lib.hid (fun(W':World)=>put1_any m (by omega) W')
         generalize ints (vb m.toNat)=t1 at*
         have hadd1:=add_str PD t1 (by omega)
         have hadd2:=add_str (PD++t1) t2 (by rw[List.length_append];omega)
         rw[hm]at kw3
         have hm2:=hm
         have kw4:IntKind.u64.wrap (2*n+1)=m:=by rw[hm];exact kw3
         clear hm kw3
         go_wp2_with fail
         refine(HP1.out wb).mono ?_
         rintro e wc ⟨rfl,hb⟩
         have hk:=blk_below HKB.out hb
         have e1:wc.cell? ⟨wr.heap.size,1,none⟩=some (.int .u64 hh):=(blk_cell hk 1).trans rfl
         have HB2:=Lib.hid (HB1.out.trans (hb.mono HB1.out.size))
         clear hb hk e2
         go_wp2_with fail
         refine(HPU.out wc).mono ?_
         rintro e wd ⟨rfl,hb⟩
         have HH:=Lib.hid (H.out.below (HB2.out.trans (hb.mono HB2.out.size)))
         clear hb e1
         go_wp2_with fail
         go_roundw
         case rel=>exact⟨i+1,by omega,by go_num,by rw[HNX.out,List.append_assoc],HH⟩
         case measure=>simp[intOf];omega
        |false=>
         have hdm:ints (vb (2*n+(if false=true then 1 else 0)).toNat)=ints (vb (2*n).toNat):=by rw[if_neg (by simp),Int.add_zero]
         rw[hdm]at hDe HNX
         have HP1:=Lib.hid (fun(W':World)=>put1_any (2*n) (by omega) W')
         generalize ints (vb (2*n).toNat)=t1 at*
         have hadd1:=add_str PD t1 (by omega)
         have hadd2:=add_str (PD++t1) t2 (by rw[List.length_append];omega)
         clear kw3
         go_wp2_with fail
         refine(HP1.out wb).mono ?_
         rintro e wc ⟨rfl,hb⟩
         have hk:=blk_below HKB.out hb
         have e1:wc.cell? ⟨wr.heap.size,1,none⟩=some (.int .u64 hh):=(blk_cell hk 1).trans rfl
         have HB2:=Lib.hid (HB1.out.trans (hb.mono HB1.out.size))
         clear hb hk e2
         go_wp2_with fail
         refine(HPU.out wc).mono ?_
         rintro e wd ⟨rfl,hb⟩
         have HH:=Lib.hid (H.out.below (HB2.out.trans (hb.mono HB2.out.size)))
         clear hb e1
         go_wp2_with fail
         go_roundw
         case rel=>exact⟨i+1,by omega,by go_num,by rw[HNX.out,List.append_assoc],HH⟩
         case measure=>simp[intOf];omega
       ·obtain rfl:i=l.length:=by omega
        have hdl:decide ((l.length:Int)<(l.length:Int))=false:=decide_eq_false (by omega)
        rw[List.take_length]
        obtain⟨PE,hPE⟩: ∃p,P++depsE v T2 l=p:=⟨_,rfl⟩
        have hle:=depsE_len v T2 (by omega) l (fun y hy=>⟨(HM.out.d y hy).2.1,(HDR.out y hy).2⟩)
        have lPE:PE.length≤2000:=by rw[←hPE,List.length_append];omega
        rw[hPE]
        obtain⟨q4,hq4⟩: ∃q,ints (vb x4.toNat)=q:=⟨_,rfl⟩
        obtain⟨q5,hq5⟩: ∃q,ints (vb x5.toNat)=q:=⟨_,rfl⟩
        have l4:q4.length≤10:=by rw[←hq4];exact vbI_len x4 HR4.out.2
        have l5:q5.length≤10:=by rw[←hq5];exact vbI_len x5 HR5.out.2
        have HQ4:=Lib.hid (fun(W':World)=>put1_any x4 HR4.out W')
        have HQ5:=Lib.hid (fun(W':World)=>put1_any x5 HR5.out W')
        rw[hq4]at HQ4
        rw[hq5]at HQ5
        have hadd4:=add_str PE q4 (by omega)
        have hadd5:=add_str (PE++q4) q5 (by rw[List.length_append];omega)
        have HPE:=Lib.hid hPE
        have HQ45:=Lib.hid (And.intro hq4 hq5)
        clear hPE hle hq4 hq5
        have y4:(wr).cell? ⟨b5,4,none⟩=some (.int .u64 x4):=(blk_cell H.out.box 4).trans rfl
        go_wp2_with fail
        refine(HQ4.out wr).mono ?_
        rintro e wb ⟨rfl,hb⟩
        have HZ:=Lib.hid (H.out.below hb)
        clear hb y3 y4
        have y5:(wb).cell? ⟨b5,5,none⟩=some (.int .u64 x5):=(blk_cell HZ.out.box 5).trans rfl
        go_wp2_with fail
        refine(HQ5.out wb).mono ?_
        rintro e wc ⟨rfl,hb⟩
        have HZ:=Lib.hid (HZ.out.below hb)
        clear hb y5
        by_cases h6:x6.size=0
        ·have hem:x6.toList.isEmpty=true:=by rw[List.isEmpty_iff];exact tl_nil.2 h6
         have hem2:(x6.toList==([]:List UInt8))=true:=by rw[tl_nil.2 h6];rfl
         have hem3:(x6.toList !=([]:List UInt8))=false:=by rw[tl_nil.2 h6];rfl
         obtain⟨q6,hq6⟩: ∃q,ints (vb 0)=q:=⟨_,rfl⟩
         have htg:tagE T2 x6=q6:=by unfold tagE;rw[if_pos h6,hq6]
         have l6:q6.length≤10:=by rw[←hq6];exact vbI_len 0 (by omega)
         have HQ6:=Lib.hid (fun(W':World)=>put1_any 0 (by omega) W')
         rw[Int.toNat_zero,hq6]at HQ6
         have HLE:Hid (lastE v T2 k0 x1 x2 l x4 x5 x6=PE++(q4++(q5++q6))):=Lib.hid (by
          unfold lastE bodyE
          rw[if_neg HKN.out.2,if_pos (show 2≤v by have:=HV.out;omega),if_pos (show 3≤v by have:=HV.out;omega),HQ45.out.2,htg,←HPE.out,←HPP.out,←HP0.out,←HQE.out.1,←HQE.out.2.1,←HQE.out.2.2.1,←HQE.out.2.2.2,←HQ45.out.1,HKN.out.1,Int.toNat_natCast]
          rw[show ints (vb ((1:Int).toNat))=[1] from vb_k 1 (by omega)]
          simp only[List.append_assoc,List.append_nil])
         have hadd6:=add_str (PE++(q4++q5)) q6 (by simp only[List.length_append];omega)
         clear h6 hq6 htg
         have y6:(wc).cell? ⟨b5,6,none⟩=some (.string x6):=(blk_cell HZ.out.box 6).trans rfl
         go_wp2_with fail
         refine(HQ6.out wc).mono ?_
         rintro e wd ⟨rfl,hb⟩
         have HZ:=Lib.hid (HZ.out.below hb)
         clear hb y6
         have y6:(wd).cell? ⟨b5,6,none⟩=some (.string x6):=(blk_cell HZ.out.box 6).trans rfl
         have hmr:(rows.map strOfNums).length≤1000000:=by rw[List.length_map];have:=HRL.out;omega
         go_wp2_with (at_builtin;refine Halt.mk ?_)
         refine Halt.of ?_
         have hb4:Below wd.heap.size wd (wd.alloc (.cells #[.string (strOfNums (PE++(q4++(q5++q6))))] 9)):=(Below.refl _ _).alloc (Nat.le_refl _) _
         have hk4:(wd.alloc (.cells #[.string (strOfNums (PE++(q4++(q5++q6))))] 9)).heap[wd.heap.size]? =some (.cells #[.string (strOfNums (PE++(q4++(q5++q6))))] 9 (0,0)):=heap_new _ _
         have hZ4:=HZ.out.below hb4
         refine Kd.R_append_rows Kd.string (w0:=Wq) Wq.heap.size rfl (.tmp 164) (.tmp 166) 45 9 (.string ⟨#[]⟩) 16 rfl Try.underlying45 info_str9 rfl (by decide) (by omega) _ (rows.map strOfNums) [strOfNums (PE++(q4++(q5++q6)))] _ _ _ (fun _=>True) (fun _=>False) rfl rfl hZ4.rw (row_val _ hk4) ?_ (fun _ h=>h.elim) (fun _ _=>trivial) hZ4.bl hZ4.bl.size (by omega) ?_
         ·rintro _ _ ⟨rfl,rfl⟩;rfl
         intro v6 w6 hR6 hb6 hg6 hat6
         have e6:rows.map strOfNums++[strOfNums (PE++(q4++(q5++q6)))]=((rows++[(PE++(q4++(q5++q6)))]).map strOfNums):=by rw[List.map_append];rfl
         rw[e6]at hR6
         have h6:=hZ4.pushed hR6 hb6 hg6 hat6
         obtain⟨A8,c8,e8,hc8,hC8⟩:=h6.tab
         obtain⟨rfl,_,rfl⟩:A2=A8∧T2.length=T2.length∧c2=c8:=by injection e8 with a1 a2 a3;exact⟨a1,a2,a3⟩
         have HE:=Lib.hid (And.intro h6 (And.intro hc8 hC8))
         obtain⟨Ar,cr,e9⟩:=Kd.R_slice hR6
         rw[List.length_map,List.length_append,List.length_singleton]at e9
         subst e9
         clear hR6 hb6 hg6 hat6 e6 h6 e8 hc8 hC8 hb4 hk4 hZ4
         go_wp2_with fail
         go_ret3
         obtain⟨h6,hc8,hC8⟩:=HE.out
         refine⟨_,A2,c2,rfl, ?_,hc8,hC8,h6.bl,h6.tb.imp (fun h=>by obtain⟨e1,e2⟩:=h;injection e2 with a1 a2 a3;exact⟨a1,a3,e1⟩) (fun hR=>Kd.R_mono hR (fun _ _=>trivial))⟩
         have h9:=h6.rw
         show Kd.R Kd.string 9 _ _ _ _ ((rows++[lastE v T2 k0 x1 x2 l x4 x5 x6]).map strOfNums)
         rw[HLE.out]
         first|exact h9|(rw[moreE_self];exact h9)
        ·have hne:x6.toList≠[]:=fun h=>h6 (tl_nil.1 h)
         have hem:x6.toList.isEmpty=false:=by rw[Bool.eq_false_iff,ne_eq,List.isEmpty_iff];exact hne
         have hem2:(x6.toList==([]:List UInt8))=false:=by simpa using hne
         have hem3:(x6.toList !=([]:List UInt8))=true:=by simpa using hne
         have hsT:=HIN.out (by have:=HV.out;omega) x6 (by unfold namesL;rw[if_neg hne];simp)
         have hat:=atI_bd T2 x6 (by omega)
         obtain⟨A',c',e9,_,hCz⟩:=HZ.out.tab
         obtain⟨rfl,_,rfl⟩:A2=A'∧T2.length=T2.length∧c2=c':=by injection e9 with a1 a2 a3;exact⟨a1,a2,a3⟩
         have hPl:=tephraref07_Place.calls (T2.length+1) A2 c2 T2 x6 (posI8 T2 x6) wc hCz hc2 (place_is8 T2 (by omega) x6 _ (by omega))
         rw[atI_pos hsT]at hPl
         obtain⟨n,hn⟩: ∃n,atI T2 x6=n:=⟨_,rfl⟩
         obtain⟨q6,hq6⟩: ∃q,ints (vb (n+1).toNat)=q:=⟨_,rfl⟩
         have htg:tagE T2 x6=q6:=by unfold tagE;rw[if_neg h6,hn,hq6]
         rw[hn]at hPl hat
         have HPL:=Lib.hid hPl
         have l6:q6.length≤10:=by rw[←hq6];exact vbI_len (n+1) (by omega)
         have HQ6:=Lib.hid (fun(W':World)=>put1_any (n+1) (by omega) W')
         rw[hq6]at HQ6
         have HLE:Hid (lastE v T2 k0 x1 x2 l x4 x5 x6=PE++(q4++(q5++q6))):=Lib.hid (by
          unfold lastE bodyE
          rw[if_neg HKN.out.2,if_pos (show 2≤v by have:=HV.out;omega),if_pos (show 3≤v by have:=HV.out;omega),HQ45.out.2,htg,←HPE.out,←HPP.out,←HP0.out,←HQE.out.1,←HQE.out.2.1,←HQE.out.2.2.1,←HQE.out.2.2.2,←HQ45.out.1,HKN.out.1,Int.toNat_natCast]
          rw[show ints (vb ((1:Int).toNat))=[1] from vb_k 1 (by omega)]
          simp only[List.append_assoc,List.append_nil])
         have hadd6:=add_str (PE++(q4++q5)) q6 (by simp only[List.length_append];omega)
         have kw1:IntKind.u64.wrap n=n:=by rw[IntKind.wrap_u64];omega
         have kw2:IntKind.u64.wrap (n+1)=n+1:=by rw[IntKind.wrap_u64];omega
         clear h6 hq6 htg hsT hn hPl hCz e9 hne
         have y6:(wc).cell? ⟨b5,6,none⟩=some (.string x6):=(blk_cell HZ.out.box 6).trans rfl
         go_wp2_with fail
         refine HPL.out.mono ?_
         rintro e wd ⟨rfl,hdr⟩
         have hb:=hdr.below
         have HZ:=Lib.hid (HZ.out.below hb)
         clear hb hdr y6
         go_wp2_with fail
         refine(HQ6.out wd).mono ?_
         rintro e we ⟨rfl,hb⟩
         have HZ:=Lib.hid (HZ.out.below hb)
         clear hb
         have hmr:(rows.map strOfNums).length≤1000000:=by rw[List.length_map];have:=HRL.out;omega
         go_wp2_with (at_builtin;refine Halt.mk ?_)
         refine Halt.of ?_
         have hb4:Below we.heap.size we (we.alloc (.cells #[.string (strOfNums (PE++(q4++(q5++q6))))] 9)):=(Below.refl _ _).alloc (Nat.le_refl _) _
         have hk4:(we.alloc (.cells #[.string (strOfNums (PE++(q4++(q5++q6))))] 9)).heap[we.heap.size]? =some (.cells #[.string (strOfNums (PE++(q4++(q5++q6))))] 9 (0,0)):=heap_new _ _
         have hZ4:=HZ.out.below hb4
         refine Kd.R_append_rows Kd.string (w0:=Wq) Wq.heap.size rfl (.tmp 164) (.tmp 166) 45 9 (.string ⟨#[]⟩) 16 rfl Try.underlying45 info_str9 rfl (by decide) (by omega) _ (rows.map strOfNums) [strOfNums (PE++(q4++(q5++q6)))] _ _ _ (fun _=>True) (fun _=>False) rfl rfl hZ4.rw (row_val _ hk4) ?_ (fun _ h=>h.elim) (fun _ _=>trivial) hZ4.bl hZ4.bl.size (by omega) ?_
         ·rintro _ _ ⟨rfl,rfl⟩;rfl
         intro v6 w6 hR6 hb6 hg6 hat6
         have e6:rows.map strOfNums++[strOfNums (PE++(q4++(q5++q6)))]=((rows++[(PE++(q4++(q5++q6)))]).map strOfNums):=by rw[List.map_append];rfl
         rw[e6]at hR6
         have h6:=hZ4.pushed hR6 hb6 hg6 hat6
         obtain⟨A8,c8,e8,hc8,hC8⟩:=h6.tab
         obtain⟨rfl,_,rfl⟩:A2=A8∧T2.length=T2.length∧c2=c8:=by injection e8 with a1 a2 a3;exact⟨a1,a2,a3⟩
         have HE:=Lib.hid (And.intro h6 (And.intro hc8 hC8))
         obtain⟨Ar,cr,e9⟩:=Kd.R_slice hR6
         rw[List.length_map,List.length_append,List.length_singleton]at e9
         subst e9
         clear hR6 hb6 hg6 hat6 e6 h6 e8 hc8 hC8 hb4 hk4 hZ4
         go_wp2_with fail
         go_ret3
         obtain⟨h6,hc8,hC8⟩:=HE.out
         refine⟨_,A2,c2,rfl, ?_,hc8,hC8,h6.bl,h6.tb.imp (fun h=>by obtain⟨e1,e2⟩:=h;injection e2 with a1 a2 a3;exact⟨a1,a3,e1⟩) (fun hR=>Kd.R_mono hR (fun _ _=>trivial))⟩
         have h9:=h6.rw
         show Kd.R Kd.string 9 _ _ _ _ ((rows++[lastE v T2 k0 x1 x2 l x4 x5 x6]).map strOfNums)
         rw[HLE.out]
         first|exact h9|(rw[moreE_self];exact h9)
    ·have hkd:(k0==1)=false:=by rw[hk];rfl
     have hkd2:decide (k0=1)=false:=decide_eq_false (by omega)
     have y0:(W).cell? ⟨b5,0,none⟩=some (.int .i64 k0):=(blk_cell HBX.out 0).trans rfl
     have HZ:=HX
     have HLE:Hid (lastE v T2 k0 x1 x2 l x4 x5 x6=p0):=Lib.hid (by
      unfold lastE
      rw[if_pos hk,List.append_nil,←HP0.out,←HQE.out.1,←HQE.out.2.1,hk]
      rw[show ints (vb ((2:Int).toNat))=[2] from vb_k 2 (by omega)])
     clear hk
     have hmr:(rows.map strOfNums).length≤1000000:=by rw[List.length_map];have:=HRL.out;omega
     go_wp2_with (at_builtin;refine Halt.mk ?_)
     refine Halt.of ?_
     have hb4:Below W.heap.size W (W.alloc (.cells #[.string (strOfNums p0)] 9)):=(Below.refl _ _).alloc (Nat.le_refl _) _
     have hk4:(W.alloc (.cells #[.string (strOfNums p0)] 9)).heap[W.heap.size]? =some (.cells #[.string (strOfNums p0)] 9 (0,0)):=heap_new _ _
     have hZ4:=HZ.out.below hb4
     refine Kd.R_append_rows Kd.string (w0:=Wq) Wq.heap.size rfl (.tmp 164) (.tmp 166) 45 9 (.string ⟨#[]⟩) 16 rfl Try.underlying45 info_str9 rfl (by decide) (by omega) _ (rows.map strOfNums) [strOfNums p0] _ _ _ (fun _=>True) (fun _=>False) rfl rfl hZ4.rw (row_val _ hk4) ?_ (fun _ h=>h.elim) (fun _ _=>trivial) hZ4.bl hZ4.bl.size (by omega) ?_
     ·rintro _ _ ⟨rfl,rfl⟩;rfl
     intro v6 w6 hR6 hb6 hg6 hat6
     have e6:rows.map strOfNums++[strOfNums p0]=((rows++[p0]).map strOfNums):=by rw[List.map_append];rfl
     rw[e6]at hR6
     have h6:=hZ4.pushed hR6 hb6 hg6 hat6
     obtain⟨A8,c8,e8,hc8,hC8⟩:=h6.tab
     obtain⟨rfl,_,rfl⟩:A2=A8∧T2.length=T2.length∧c2=c8:=by injection e8 with a1 a2 a3;exact⟨a1,a2,a3⟩
     have HE:=Lib.hid (And.intro h6 (And.intro hc8 hC8))
     obtain⟨Ar,cr,e9⟩:=Kd.R_slice hR6
     rw[List.length_map,List.length_append,List.length_singleton]at e9
     subst e9
     clear hR6 hb6 hg6 hat6 e6 h6 e8 hc8 hC8 hb4 hk4 hZ4
     go_wp2_with fail
     go_ret3
     obtain⟨h6,hc8,hC8⟩:=HE.out
     refine⟨_,A2,c2,rfl, ?_,hc8,hC8,h6.bl,h6.tb.imp (fun h=>by obtain⟨e1,e2⟩:=h;injection e2 with a1 a2 a3;exact⟨a1,a3,e1⟩) (fun hR=>Kd.R_mono hR (fun _ _=>trivial))⟩
     have h9:=h6.rw
     show Kd.R Kd.string 9 _ _ _ _ ((rows++[lastE v T2 k0 x1 x2 l x4 x5 x6]).map strOfNums)
     rw[HLE.out]
     first|exact h9|(rw[moreE_self];exact h9)
set_option maxRecDepth 100000 in
theorem rput9_ver (W:World) (v:Int) (A:Option Addr) (c:Nat) (T:List ByteArray) (hC:Kd.C Kd.string W A T.length T) (hc:T.length≤c) (hT:T.length≤100000) (k0:Int) (x1:ByteArray) (x2:Int) (B:Option Addr) (d:Nat) (l:List S109) (x4 x5:Int) (x6:ByteArray)
  (hrow:Kd.C k109 W B l.length l) (hd:l.length≤d) (hok:RecOk x1 l x6) (hv: ¬(1≤v∧v≤3)):
  Calls Try.prog 32 #[.int .i64 v, .slice A T.length c, .agg #[.int .i64 k0, .string x1, .int .u64 x2, .slice B l.length d, .int .u64 x4, .int .u64 x5, .string x6]] W (RPutPost W A c T (putF v T k0 x1 x2 l x4 x5 x6)):=by
 have hpf:putF v T k0 x1 x2 l x4 x5 x6=([],T,11):=by unfold putF;rw[if_neg hv]
 rw[hpf]
 obtain⟨wz,hwz⟩: ∃wz,(W.alloc (.cells #[.int .i64 k0, .string x1, .int .u64 x2, .slice B l.length d, .int .u64 x4, .int .u64 x5, .string x6] 62)).alloc (.cells #[] 9)=wz:=⟨_,rfl⟩
 have hbz:Below W.heap.size W wz:=by rw[←hwz];exact((Below.refl _ _).alloc (Nat.le_refl _) _).alloc (by rw[heap_size_alloc];omega) _
 have hke:wz.heap[W.heap.size+1]? =some (.cells #[] 9 (0,0)):=by rw[←hwz];exact heap_new2 _ _ _
 obtain⟨b5,hb5⟩: ∃b,W.heap.size=b:=⟨_,rfl⟩
 rw[hb5]at hke
 have hre:=R_empty Kd.string wz W.heap.size (b5+1) 9 (fun _=>True) hke (by omega) trivial
 have HC:=Lib.hid hC
 have HBZ:=Lib.hid hbz
 have HWZ:=Lib.hid hwz
 have HREZ:=Lib.hid hre
 have HB5:=Lib.hid hb5
 by_cases h1:v<1
 ·have d1:decide (v<1)=true:=decide_eq_true h1
  clear hpf hC hbz hke hre hwz hb5 hok hrow
  go_enter Try.func32,Try.ntmps32
  go_wp2_with fail
  (try rw[HWZ.out,HB5.out])
  go_ret3
  exact⟨_,A,c,rfl,HREZ.out,hc,Kd.C_below HC.out HBZ.out,HBZ.out, .inl ⟨rfl,rfl,rfl⟩⟩
 ·have d1:decide (v<1)=false:=decide_eq_false h1
  have d3:decide (3<v)=true:=decide_eq_true (by omega)
  clear hpf hC hbz hke hre hwz hb5 hok hrow
  go_enter Try.func32,Try.ntmps32
  go_wp2_with fail
  (try rw[HWZ.out,HB5.out])
  go_ret3
  exact⟨_,A,c,rfl,HREZ.out,hc,Kd.C_below HC.out HBZ.out,HBZ.out, .inl ⟨rfl,rfl,rfl⟩⟩
set_option maxRecDepth 100000 in
theorem rput9_no (W:World) (v:Int) (A:Option Addr) (c:Nat) (T:List ByteArray) (hC:Kd.C Kd.string W A T.length T) (hc:T.length≤c) (hT:T.length≤100000) (k0:Int) (x1:ByteArray) (x2:Int) (B:Option Addr) (d:Nat) (l:List S109) (x4 x5:Int) (x6:ByteArray)
  (hrow:Kd.C k109 W B l.length l) (hd:l.length≤d) (hok:RecOk x1 l x6) (hv:1≤v∧v≤3) (hm:mayB v k0 x1 x2 l x4 x5 x6=false):
  Calls Try.prog 32 #[.int .i64 v, .slice A T.length c, .agg #[.int .i64 k0, .string x1, .int .u64 x2, .slice B l.length d, .int .u64 x4, .int .u64 x5, .string x6]] W (RPutPost W A c T (putF v T k0 x1 x2 l x4 x5 x6)):=by
 have hpf:putF v T k0 x1 x2 l x4 x5 x6=([],T,1):=by unfold putF;rw[if_pos hv,if_neg (by rw[hm];simp)]
 rw[hpf]
 obtain⟨wz,hwz⟩: ∃wz,(W.alloc (.cells #[.int .i64 k0, .string x1, .int .u64 x2, .slice B l.length d, .int .u64 x4, .int .u64 x5, .string x6] 62)).alloc (.cells #[] 9)=wz:=⟨_,rfl⟩
 have hbz:Below W.heap.size W wz:=by rw[←hwz];exact((Below.refl _ _).alloc (Nat.le_refl _) _).alloc (by rw[heap_size_alloc];omega) _
 have hke:wz.heap[W.heap.size+1]? =some (.cells #[] 9 (0,0)):=by rw[←hwz];exact heap_new2 _ _ _
 obtain⟨b5,hb5⟩: ∃b,W.heap.size=b:=⟨_,rfl⟩
 rw[hb5]at hke
 have hre:=R_empty Kd.string wz W.heap.size (b5+1) 9 (fun _=>True) hke (by omega) trivial
 have HC:=Lib.hid hC
 have HBZ:=Lib.hid hbz
 have HWZ:=Lib.hid hwz
 have HREZ:=Lib.hid hre
 have HB5:=Lib.hid hb5
 have HMY:=Lib.hid (rmay_any v k0 x1 x2 l x4 x5 x6 B d wz (Kd.C_below hrow hbz))
 rw[hm]at HMY
 have d1:decide (v<1)=false:=decide_eq_false (by omega)
 have d3:decide (3<v)=false:=decide_eq_false (by omega)
 clear hpf hC hbz hke hre hwz hb5 hok hrow hm
 go_enter Try.func32,Try.ntmps32
 go_wp2_with fail
 rw[HWZ.out,HB5.out]
 refine HMY.out.mono ?_
 rintro e wa ⟨rfl,hb⟩
 have hbb:=HBZ.out.trans (hb.mono HBZ.out.size)
 go_wp2_with fail
 go_ret3
 exact⟨_,A,c,rfl,Kd.R_below HREZ.out hb,hc,Kd.C_below HC.out hbb,hbb, .inl ⟨rfl,rfl,rfl⟩⟩
theorem rput9_any (W:World) (v:Int) (A:Option Addr) (c:Nat) (T:List ByteArray) (hC:Kd.C Kd.string W A T.length T) (hc:T.length≤c) (hT:T.length≤100000) (k0:Int) (x1:ByteArray) (x2:Int) (B:Option Addr) (d:Nat) (l:List S109) (x4 x5:Int) (x6:ByteArray)
  (hrow:Kd.C k109 W B l.length l) (hd:l.length≤d) (hok:RecOk x1 l x6) (h2:0≤x2∧x2<18446744073709551616) (h4:0≤x4∧x4<18446744073709551616) (h5:0≤x5∧x5<18446744073709551616) (hdr: ∀y∈l,0≤y.f1∧y.f1<18446744073709551616):
  Calls Try.prog 32 #[.int .i64 v, .slice A T.length c, .agg #[.int .i64 k0, .string x1, .int .u64 x2, .slice B l.length d, .int .u64 x4, .int .u64 x5, .string x6]] W (RPutPost W A c T (putF v T k0 x1 x2 l x4 x5 x6)):=by
 by_cases hv:1≤v∧v≤3
 ·by_cases hm:mayB v k0 x1 x2 l x4 x5 x6=true
  ·have hv3:v=1∨v=2∨v=3:=by omega
   rcases hv3 with h|h|h
   ·exact rput9_1 W v A c T hC hc hT k0 x1 x2 B d l x4 x5 x6 hrow hd hok h hm h2 h4 h5 hdr
   ·exact rput9_2 W v A c T hC hc hT k0 x1 x2 B d l x4 x5 x6 hrow hd hok h hm h2 h4 h5 hdr
   ·exact rput9_3 W v A c T hC hc hT k0 x1 x2 B d l x4 x5 x6 hrow hd hok h hm h2 h4 h5 hdr
  ·exact rput9_no W v A c T hC hc hT k0 x1 x2 B d l x4 x5 x6 hrow hd hok hv (by rwa [Bool.not_eq_true]at hm)
 ·exact rput9_ver W v A c T hC hc hT k0 x1 x2 B d l x4 x5 x6 hrow hd hok hv
end Go.Proofs.Ytmeocdkiecknkaa
namespace Go.Proofs.Ytmeocdkiecknkaa
open Go.RowKit Go.Proofs.YtmeocdkiecknkaaW.PrintWords Go.Proofs.Ytmeocdkiecknkaa.GRR
theorem results_cttt {P:Program} {fn:Func} {p u v x:Tmp} {ty:TypeId} (h:fn.results=#[.cell p ty, .tmp u, .tmp v, .tmp x]) (tmps:Array Value) (w:World) (g:Nat) (t:TypeId) (cs:Array Value) (fr:Nat×Nat) (d:TypeDesc)
  (hp:tmps.getD p undef= .pointer (some ⟨g,0,none⟩)) (hg:w.heap[g]? =some (.cells cs t fr))
  (hu:P.underlying ty=some d) (hd:(match d with| .struct _| .array _ _=>true|_=>false)=true) (hi:(P.info? ty).map (·.size)=some cs.size):
  (results fn tmps).run P w= .ok (.tuple #[.agg cs,tmps.getD u undef,tmps.getD v undef,tmps.getD x undef]) w:=by
 have hp':tmps[p]?.getD undef= .pointer (some ⟨g,0,none⟩):=by simpa using hp
 simp[results,h,hp',asAddr,run_loadVar_row w g t ty cs fr d hg hu hd hi]
theorem fa7 {w:World} {g:Nat} {t:TypeId} {v0 v1 v2 v3 v4 v5 v6:Value} (h:w.heap[g]? =some (.cells #[v0,v1,v2,v3,v4,v5,v6] t (0,0))):w.cell? ⟨g,0,none⟩=some v0∧w.cell? ⟨g,1,none⟩=some v1∧w.cell? ⟨g,2,none⟩=some v2∧w.cell? ⟨g,3,none⟩=some v3∧w.cell? ⟨g,4,none⟩=some v4∧w.cell? ⟨g,5,none⟩=some v5∧w.cell? ⟨g,6,none⟩=some v6:=
 ⟨(blk_cell h 0).trans rfl,(blk_cell h 1).trans rfl,(blk_cell h 2).trans rfl,(blk_cell h 3).trans rfl,(blk_cell h 4).trans rfl,(blk_cell h 5).trans rfl,(blk_cell h 6).trans rfl⟩
theorem fa14 {w:World} {g:Nat} {t:TypeId} {v0 v1 v2 v3 v4 v5 v6:Value} (h:w.heap[g]? =some (.cells #[v0,v1,v2,v3,v4,v5,v6] t (0,0))):w.cell? ⟨g,0,none⟩=some v0∧w.frozen? ⟨g,0,none⟩=false∧w.cell? ⟨g,1,none⟩=some v1∧w.frozen? ⟨g,1,none⟩=false∧w.cell? ⟨g,2,none⟩=some v2∧w.frozen? ⟨g,2,none⟩=false∧w.cell? ⟨g,3,none⟩=some v3∧w.frozen? ⟨g,3,none⟩=false∧w.cell? ⟨g,4,none⟩=some v4∧w.frozen? ⟨g,4,none⟩=false∧w.cell? ⟨g,5,none⟩=some v5∧w.frozen? ⟨g,5,none⟩=false∧w.cell? ⟨g,6,none⟩=some v6∧w.frozen? ⟨g,6,none⟩=false:=
 ⟨(blk_cell h 0).trans rfl,blk_frozen h 0,(blk_cell h 1).trans rfl,blk_frozen h 1,(blk_cell h 2).trans rfl,blk_frozen h 2,(blk_cell h 3).trans rfl,blk_frozen h 3,(blk_cell h 4).trans rfl,blk_frozen h 4,(blk_cell h 5).trans rfl,blk_frozen h 5,(blk_cell h 6).trans rfl,blk_frozen h 6⟩
theorem str_tail (x:Int) (q:List Int):(strOfNums (x::q)).extract 1 (q.length+1)=defS (x::q):=by
 apply ByteArray.ext
 apply Array.ext'
 simp[strOfNums,defS,ByteArray.data_extract,List.extract_eq_take_drop,List.take_of_length_le]
theorem seg_step {F ps:List (List Int)} {a i:Nat} (h1: ∀p∈F,∀x∈p,0≤x∧x<256) (h2: ∀p∈ps,p.length≤3000∧∀x∈p,0≤x∧x<256) (he: ∀j,j<i→F[j]? =ps[a+j]?) (hi:i<F.length) (hj:a+i<ps.length) (hf:strOfNums F[i]=strOfNums ps[a+i]): ∀j,j<i+1→F[j]? =ps[a+j]? :=by
 intro j hj2
 rcases Nat.lt_or_ge j i with h|h
 ·exact he j h
 ·obtain rfl:j=i:=by omega
  have e:=strs_inj (h1 _ (List.getElem_mem hi)) (h2 _ (List.getElem_mem hj)).2
  rw[hf]at e
  simp at e
  rw[List.getElem?_eq_getElem hi,List.getElem?_eq_getElem hj,e]
theorem seg_at {F ps:List (List Int)} {a i n:Nat} (h:F=(ps.take n).drop a) (hi:i<F.length) (hj:a+i<ps.length):F[i]=ps[a+i]:=by
 subst h
 rw[List.getElem_drop,List.getElem_take]
theorem seg_all {F ps:List (List Int)} {a n:Nat} (hn:n<ps.length) (hl:F.length=n+1-a) (he: ∀j,j<F.length→F[j]? =ps[a+j]?):F=(ps.take (n+1)).drop a:=by
 apply List.ext_getElem?
 intro j
 by_cases h:j<F.length
 ·rw[he j h,List.getElem?_drop,List.getElem?_take_of_lt (by omega)]
 ·rw[List.getElem?_eq_none (by omega),List.getElem?_eq_none (by rw[List.length_drop,List.length_take];omega)]
theorem alsz {T al:List ByteArray} {ps:List (List Int)} {a m:Nat} (hs: ∀s∈T,s.size≤maxLen) (hps: ∀p∈ps,p.length≤3000∧∀x∈p,0≤x∧x<256) (h:tnewOn T (((ps.drop a).take m).map defS)=al): ∀s∈al,s.size≤maxLen:=by
 intro s hsm
 rw[←h,mem_tnewOn]at hsm
 rcases hsm with hsm|hsm
 ·exact hs s hsm
 ·obtain⟨q,hq,rfl⟩:=List.mem_map.1 hsm
  have hqm:q∈ps:=List.mem_of_mem_drop (List.mem_of_mem_take hq)
  unfold defS
  rw[strOfNums_size,List.length_tail]
  have:=(hps q hqm).1
  simp only[maxLen]
  omega
theorem lastW_rg {v:Int} {T:List ByteArray} {l:List Int} (hT: ∀s∈T,s.size≤maxLen) (hb: ∀x∈l,0≤x∧x<256) (hl:l.length≤1000000):RecRg (lastW v T l).1 (l.length+2):=by
 have z:(0:Int)≤0∧(0:Int)<18446744073709551616:=⟨by omega,by omega⟩
 unfold lastW
 obtain⟨N1,hN1⟩: ∃N,cuNum l 0 0=N:=⟨_,rfl⟩
 rw[hN1]
 obtain⟨k,a1,e1⟩:=N1
 dsimp only
 by_cases hbad:e1≠0∨(k≠1∧k≠2)
 ·rw[if_pos hbad]
  exact⟨⟨by show(0:Int)≤0;omega,by show(0:Int)<256;omega⟩,Nat.zero_le _,z,Nat.zero_le _,by simp,z,z,Nat.zero_le _⟩
 ·rw[if_neg hbad]
  have h:=lastR_rg (v:=v) hT hb hl
  rw[lastR_K,kind_byte hb hN1 (by omega) (by omega)]at h
  exact h
def RGetPost (W:World) (A:Option Addr) (c:Nat) (T:List ByteArray) (F:Rec9×Int×List ByteArray×Int) (e:Ending) (W':World):Prop:=
 ∃dv A' c',e= .returned (.tuple #[.agg #[.int .i64 F.1.1, .string F.1.2.1, .int .u64 F.1.2.2.1,dv, .int .u64 F.1.2.2.2.2.1, .int .u64 F.1.2.2.2.2.2.1, .string F.1.2.2.2.2.2.2], .int .i64 F.2.1, .slice A' F.2.2.1.length c', .int .i64 F.2.2.2])∧Kd.R k109 109 W' W.heap.size (fun _=>True) dv F.1.2.2.2.1∧F.2.2.1.length≤c'∧Kd.C Kd.string W' A' F.2.2.1.length F.2.2.1∧Below W.heap.size W W'∧((A'=A∧c'=c∧F.2.2.1=T)∨Kd.R Kd.string 9 W' W.heap.size (fun _=>True) (.slice A' F.2.2.1.length c') F.2.2.1)
set_option maxHeartbeats 8000000 in
set_option maxRecDepth 100000 in
theorem rget_ok (W:World) (v:Int) (hv:1≤v∧v≤3) (A:Option Addr) (c:Nat) (T:List ByteArray) (hC:Kd.C Kd.string W A T.length T) (hc:T.length≤c) (hT:T.length≤50000) (hTd:T.Nodup) (hTs: ∀s∈T,s.size≤maxLen) (B:Option Addr) (d:Nat) (ps:List (List Int)) (hP:Kd.C Kd.string W B ps.length (ps.map strOfNums)) (hd:ps.length≤d) (hbt: ∀p∈ps,p.length≤3000∧∀x∈p,0≤x∧x<256) (hn:ps.length≤10000) (a:Nat) (ha:a≤ps.length):
  Calls Try.prog 40 #[.int .i64 v, .slice A T.length c, .slice B ps.length d, .int .i64 (a:Int)] W (RGetPost W A c T (getF v T ps (a:Int))):=by
 obtain⟨W1,hW1⟩: ∃w,(W.alloc (.cells #[.int .i64 0, .string ⟨#[]⟩, .int .u64 0, .slice none 0 0, .int .u64 0, .int .u64 0, .string ⟨#[]⟩] 62)).alloc (.cells #[.int .i64 0, .string ⟨#[]⟩, .int .u64 0, .slice none 0 0, .int .u64 0, .int .u64 0, .string ⟨#[]⟩] 62)=w:=⟨_,rfl⟩
 have hb1:Below W.heap.size W W1:=by rw[←hW1];exact((Below.refl _ _).alloc (Nat.le_refl _) _).alloc (by rw[heap_size_alloc];omega) _
 have hk8:W1.heap[W.heap.size]? =some (.cells #[.int .i64 0, .string ⟨#[]⟩, .int .u64 0, .slice none 0 0, .int .u64 0, .int .u64 0, .string ⟨#[]⟩] 62 (0,0)):=by rw[←hW1];exact blk_alloc (heap_new _ _) _
 have hk12:W1.heap[W.heap.size+1]? =some (.cells #[.int .i64 0, .string ⟨#[]⟩, .int .u64 0, .slice none 0 0, .int .u64 0, .int .u64 0, .string ⟨#[]⟩] 62 (0,0)):=by
  rw[←hW1]
  have:=heap_new (W.alloc (.cells #[.int .i64 0, .string ⟨#[]⟩, .int .u64 0, .slice none 0 0, .int .u64 0, .int .u64 0, .string ⟨#[]⟩] 62)) (.cells #[.int .i64 0, .string ⟨#[]⟩, .int .u64 0, .slice none 0 0, .int .u64 0, .int .u64 0, .string ⟨#[]⟩] 62)
  rwa [heap_size_alloc]at this
 obtain⟨b8,hb8⟩: ∃b,W.heap.size=b:=⟨_,rfl⟩
 rw[hb8]at hk8 hk12
 have HC:=Lib.hid hC
 have HP:=Lib.hid hP
 have HB1:=Lib.hid hb1
 have HK8:=Lib.hid hk8
 have HK12:=Lib.hid hk12
 have HW1:=Lib.hid hW1
 have HB8:=Lib.hid hb8
 have HU:=Lib.hid Try.underlying62
 have HBT:=Lib.hid hbt
 have HTS:=Lib.hid (And.intro hTd hTs)
 have d1:decide (v<1)=false:=decide_eq_false (by omega)
 have d2:decide (3<v)=false:=decide_eq_false (by omega)
 have d3:decide ((a:Int)<0)=false:=decide_eq_false (by omega)
 have d4:decide (ps.length<a)=false:=decide_eq_false (by omega)
 have HV:=Lib.hid hv
 clear hC hP hb1 hk8 hk12 hW1 hb8 hbt hTd hTs
 go_enter Try.func40,Try.ntmps40
 go_wp2_with fail
 rw[HW1.out,HB8.out]
 clear d1 d2 d3 d4
 go_loopw [13,14] (fun u13 u14 wr=>∃(n:Nat) (A':Option Addr) (c':Nat) (al:List ByteArray),a≤n∧n≤ps.length∧u13= .int .i64 (n:Int)∧u14= .slice A' al.length c'∧al.length≤c'∧al.length≤T.length+n∧Hid (Kd.C Kd.string wr A' al.length al)∧Hid (Below W1.heap.size W1 wr)∧Hid (∀j,a≤j→j<n→isDef (ps.getD j [])=true)∧Hid (tnewOn T (((ps.drop a).take (n-a)).map defS)=al)) (fun v _ _=>ps.length-(intOf v).toNat)
 case atStart=>exact⟨a,A,c,T,Nat.le_refl _,ha,rfl,rfl,hc,by omega,Lib.hid (Kd.C_below HC.out HB1.out),Lib.hid (Below.refl _ _),Lib.hid (fun j h1 h2=>by omega),Lib.hid (by rw[Nat.sub_self,List.take_zero];rfl)⟩
 case round=>
  obtain⟨n,A',c',al,hna,hnl,rfl,rfl,hac,haT,HA,HB,HD,HL⟩:=hrel
  have HBW:=Lib.hid (HB1.out.trans (HB.out.mono HB1.out.size))
  have hml:(ps.map strOfNums).length=ps.length:=List.length_map ..
  by_cases hlt:n<ps.length
  ·have hdl:decide ((n:Int)<(ps.length:Int))=true:=decide_eq_true (by omega)
   obtain⟨ad,hA2,hcell⟩:=txt_at (T:=ps.map strOfNums) (by rw[hml];exact HP.out) HBW.out n (by omega)
   subst hA2
   rw[List.getElem_map]at hcell
   have hbp:=HBT.out ps[n] (List.getElem_mem _)
   have hgd:ps.getD n []=ps[n]:=by simp[hlt]
   have hG:isDef ps[n]=false→getF v T ps (a:Int)=getW v T ps a n:=fun hd=>by
    rw[getW_is (by omega) HTS.out.1 HTS.out.2 HBT.out hna hlt,getF_at HV.out hna hnl HD.out (fun _=>by rw[hgd];exact hd),if_neg (by omega)]
   have htk:(ps.drop a).take (n+1-a)=(ps.drop a).take (n-a)++[ps[n]]:=by
    have h1:n-a<(ps.drop a).length:=by rw[List.length_drop];omega
    rw[show n+1-a=n-a+1 by omega,List.take_succ_eq_append_getElem h1,List.getElem_drop]
    congr 3
    omega
   have hdn:isDef ps[n]=true→∀j,a≤j→j<n+1→isDef (ps.getD j [])=true:=fun hd j h1 h2=>by
    rcases Nat.lt_or_ge j n with h3|h3
    ·exact HD.out j h1 h3
    ·obtain rfl:j=n:=by omega
     rw[hgd];exact hd
   have hgw:getW v T ps a n=(let R:=lastW v al ps[n]
     let F:=putF v T R.1.1 R.1.2.1 R.1.2.2.1 R.1.2.2.2.1 R.1.2.2.2.2.1 R.1.2.2.2.2.2.1 R.1.2.2.2.2.2.2
     if R.2=true∧F.2.2=0∧F.1=(ps.take (n+1)).drop a then(R.1,((n+1:Nat):Int),F.2.1,0)else(rec0,0,T,3)):=by unfold getW;rw[HL.out,hgd]
   rw[hgw]at hG
   clear hgw hgd
   generalize ps[n]=p at*
   have hps0:(strOfNums p).size=p.length:=strOfNums_size p
   have hdq:defS p=strOfNums p.tail:=rfl
   by_cases hdef:isDef p=true
   ·obtain ⟨x,q,rfl,rfl⟩: ∃x q,p=x::q∧x=0:=by
     cases p with
     |nil=>simp[isDef]at hdef
     |cons x q=>exact⟨x,q,rfl,by simpa [isDef]using hdef⟩
    have hemp:(strOfNums (0::q)).toList.isEmpty=false:=by rw[tl_empty,hps0];exact decide_eq_false (by simp)
    have hex:(strOfNums (0::q)).extract 1 (q.length+1)=defS (0::q):=str_tail 0 q
    have hsz0:0<(strOfNums (0::q)).size:=by rw[hps0];simp
    have hby:((((strOfNums (0::q))[0]'hsz0).toNat:Int)==0)=true:=rfl
    have htp:=rtput_any A' c' al (defS (0::q)) wr HA.out hac (by omega)
    have hal2:tput al (defS (0::q))=tnewOn T (((ps.drop a).take (n+1-a)).map defS):=by
     rw[htk,List.map_append,List.map_singleton,tnewOn_snoc,HL.out]
    have hln2:(tput al (defS (0::q))).length≤T.length+(n+1):=by
     have h1:=tput_len_le al (defS (0::q));omega
    obtain⟨al2,hal3⟩: ∃x,tput al (defS (0::q))=x:=⟨_,rfl⟩
    rw[hal3]at htp hal2 hln2
    have HTP:=Lib.hid htp
    have HAL:=Lib.hid hal2
    have HDN:=Lib.hid (hdn hdef)
    have hwn:IntKind.i64.wrap ((n:Int)+1)=(n:Int)+1:=by rw[IntKind.wrap_i64];omega
    generalize strOfNums (0::q)=sp at*
    generalize defS (0::q)=sd at*
    clear hG htk hdn hdef htp hal2 hal3 hbp hdq
    go_wp2_with fail
    refine HTP.out.mono ?_
    rintro e w2 ⟨A2,c2,rfl,hc2,hC2,hb2,_⟩
    have HC2:=Lib.hid hC2
    have HB2:=Lib.hid (HB.out.trans (hb2.mono HB.out.size))
    clear hcell hemp hex hsz0 hby hC2 hb2
    go_wp2_with fail
    go_roundw
    case rel=>exact⟨n+1,A2,c2,al2,by omega,by omega,by go_num,rfl,hc2,hln2,HC2,HB2,HDN,Lib.hid HAL.out.symm⟩
    case measure=>simp[intOf];omega
   ·have hdf:=Bool.eq_false_iff.2 hdef
    have hg:=hG hdf
    have hls:=fun(W:World) (h:Kd.C Kd.string W A' al.length al)=>wlast_is v HV.out (l:=p) hbp.2 (by have:=hbp.1;omega) A' c' al (by omega) W h
    have hrg:=lastW_rg (v:=v) (T:=al) (l:=p) (alsz HTS.out.2 HBT.out HL.out) hbp.2 (by have:=hbp.1;omega)
    have hpl:p.length≤3000:=hbp.1
    obtain⟨R,hR⟩: ∃R,lastW v al p=R:=⟨_,rfl⟩
    rw[hR]at hls hg hrg
    obtain⟨⟨k0,x1,x2,ds,x4,x5,x6⟩,ok⟩:=R
    dsimp only at hg hrg
    have HLS:=Lib.hid hls
    have HGF:=Lib.hid hg
    have HROK:Hid (RecOk x1 ds x6∧(0≤x2∧x2<18446744073709551616)∧(0≤x4∧x4<18446744073709551616)∧(0≤x5∧x5<18446744073709551616)∧∀y∈ds,0≤y.f1∧y.f1<18446744073709551616):=
     Lib.hid ⟨⟨by have:=hrg.n;dsimp only at this;omega,hrg.t,hrg.tag,fun d hd=>(hrg.d d hd).1⟩,hrg.r2,hrg.o,hrg.w,fun d hd=>(hrg.d d hd).2⟩
    have HPBY:Hid (∀p∈(putF v T k0 x1 x2 ds x4 x5 x6).1,∀x∈p,0≤x∧x<256):=Lib.hid (putF_bytes v T (by omega) k0 hrg.k x1 hrg.t x2 hrg.r2.2 ds (by have:=hrg.n;dsimp only at this;omega) (fun d hd=>⟨(hrg.d d hd).1,(hrg.d d hd).2.2⟩) x4 x5 hrg.o.2 hrg.w.2 x6)
    have hne:((n:Int)==(ps.length:Int))=false:=by simp;omega
    have hcase:(strOfNums p).toList.isEmpty=true∨∃h:0<(strOfNums p).size,(strOfNums p).toList.isEmpty=false∧((((strOfNums p)[0]'h).toNat:Int)==0)=false:=by
     cases p with
     |nil=>left;rw[tl_empty,hps0];rfl
     | cons x q=>
      right
      have h0:0<(strOfNums (x::q)).size:=by rw[hps0];simp
      have hx:=hbp.2 x List.mem_cons_self
      refine⟨h0,by rw[tl_empty];exact decide_eq_false (by omega), ?_⟩
      have hxn: ¬x=0:=by simpa [isDef]using hdf
      have hby:(((strOfNums (x::q))[0]'h0).toNat:Int)=x:=by
       show((UInt8.ofNat x.toNat).toNat:Int)=x
       simp;omega
      rw[hby];simpa using hxn
    generalize strOfNums p=sp at*
    clear hG htk hdn hdef hdf hg hls hrg hR hbp hdq
    rcases hcase with hemp|⟨hsz0,hemp,hby⟩
    all_goals
     go_wp2_with fail
     clear hcell
     refine(HLS.out wr (Kd.C_below HA.out (Below.refl _ _))).mono ?_
     rintro e w2 ⟨dv,rfl,hR,hb2⟩
     obtain⟨Ad,cd,rfl⟩:=Kd.R_slice hR
     dsimp only
     obtain⟨w3,hw3⟩: ∃x,w2.alloc (.cells #[.int .i64 k0, .string x1, .int .u64 x2, .slice Ad ds.length cd, .int .u64 x4, .int .u64 x5, .string x6] 62)=x:=⟨_,rfl⟩
     have hb3:Below w2.heap.size w2 w3:=by rw[←hw3];exact(Below.refl _ _).alloc (Nat.le_refl _) _
     have hk3:w3.heap[w2.heap.size]? =some (.cells #[.int .i64 k0, .string x1, .int .u64 x2, .slice Ad ds.length cd, .int .u64 x4, .int .u64 x5, .string x6] 62 (0,0)):=by rw[←hw3];exact heap_new _ _
     obtain⟨b15,hb15⟩: ∃b,w2.heap.size=b:=⟨_,rfl⟩
     rw[hb15]at hk3
     have hbw3:Below W1.heap.size W1 w3:=HB.out.trans ((hb2.trans (hb3.mono hb2.size)).mono HB.out.size)
     have hR3:=Kd.R_lower (Kd.R_below hR hb3) (show W1.heap.size≤wr.heap.size from HB.out.size)
     have hBW3:=HB1.out.trans (hbw3.mono HB1.out.size)
     have hpt:=rput9_any w3 v A c T (Kd.C_below HC.out hBW3) hc (by omega) k0 x1 x2 Ad cd ds x4 x5 x6 (Kd.R_reads' hR3).2.2 (Kd.R_reads' hR3).2.1 HROK.out.1 HROK.out.2.1 HROK.out.2.2.1 HROK.out.2.2.2.1 HROK.out.2.2.2.2
     have hgf:=HGF.out
     have hpby:=HPBY.out
     generalize putF v T k0 x1 x2 ds x4 x5 x6=F at hpt hgf hpby
     obtain⟨F1,T2,er⟩:=F
     dsimp only at hpt hgf hpby
     have HF:=Lib.hid hpby
     have HPT:=Lib.hid hpt
     have HGF2:=Lib.hid hgf
     have HR3:=Lib.hid hR3
     have HK3:=Lib.hid hk3
     have HBW3:=Lib.hid hbw3
     have HW3:=Lib.hid hw3
     have HB15:=Lib.hid hb15
     clear hR hb2 hb3 hk3 hbw3 hR3 hBW3 hpt hgf hw3 hb15 hpby HLS HROK HPBY
     have hwn:IntKind.i64.wrap ((n:Int)+1)=(n:Int)+1:=by rw[IntKind.wrap_i64];omega
     have hws:IntKind.i64.wrap ((n:Int)+1-(a:Int))=(n:Int)+1-(a:Int):=by rw[IntKind.wrap_i64];omega
     go_wp2_with fail
     rw[HW3.out,HB15.out]
     refine HPT.out.mono ?_
     rintro e w4 ⟨v17,A',c',rfl,hR17,hc4,hC4,hb4,hor⟩
     dsimp only at hR17 hc4 hC4 ⊢
     obtain⟨A17,c17,rfl⟩:=Kd.R_slice hR17
     have hml7:(F1.map strOfNums).length=F1.length:=List.length_map ..
     rw[hml7]
     have HR17:=Lib.hid (Kd.R_reads' hR17)
     have HC4:=Lib.hid (And.intro hc4 hC4)
     have HB4:=Lib.hid (HBW3.out.trans (hb4.mono HBW3.out.size))
     have HR4:=Lib.hid (Kd.R_below HR3.out hb4)
     have HOR:=Lib.hid hor
     have HK4:=Lib.hid (blk_below HK3.out hb4)
     clear hR17 hc4 hC4 hb4 hor HPT
     cases ok with
     |false=>
      have HFIN:=Lib.hid (HGF2.out.trans (if_neg (by rintro⟨h,_⟩;cases h)))
      obtain⟨o0,of0,o1,of1,o2,of2,o3,of3,o4,of4,o5,of5,o6,of6⟩:=fa14 (blk_below HK8.out HB4.out)
      obtain⟨r0,r1,r2,r3,r4,r5,r6⟩:=fa7 (blk_below HK12.out HB4.out)
      have HK8E:=Lib.hid (blk_below HK8.out HB4.out)
      have HBE:=Lib.hid (HB1.out.trans (HB4.out.mono HB1.out.size))
      go_wp2_with fail
      refine bodyPost_ret (results_cttt rfl _ _ b8 62 #[_,_,_,_,_,_,_] (0,0) _ rfl (blk_put7 HK8E.out _ _ _ _ _ _ _) HU.out rfl (by kernel_rfl)) rfl ?_
      rw[HFIN.out]
      have hb8w:=HB8.out
      have hbf:=below_put7 (g:=b8) HBE.out (Nat.le_of_eq hb8w) (.int .i64 0) (.string ⟨#[]⟩) (.int .u64 0) (.slice none 0 0) (.int .u64 0) (.int .u64 0) (.string ⟨#[]⟩)
      exact⟨_,A,c,rfl,Kd.R_nil _ _ _ _ _,hc,Kd.C_below HC.out hbf,hbf, .inl ⟨rfl,rfl,rfl⟩⟩
     | true=>
      by_cases he:er=0
      ·by_cases hln:F1.length=n+1-a
       ·have hle:((F1.length:Int) !=(n:Int)+1-(a:Int))=false:=by
         have:(F1.length:Int)=(n:Int)+1-(a:Int):=by omega
         simp[this]
        subst he
        go_wp2_with fail
        go_loopw [20] (fun u wq=>∃(i:Nat),i≤F1.length∧u= .int .i64 (i:Int)∧Hid (Below w4.heap.size w4 wq)∧Hid (∀j,j<i→F1[j]? =ps[a+j]?)) (fun u _=>F1.length-(intOf u).toNat)
        case atStart=>exact⟨0,by omega,rfl,Lib.hid (Below.refl _ _),Lib.hid (fun j h=>by omega)⟩
        case round=>
         obtain⟨i,hi,rfl,HQ,HE⟩:=hrel
         have HBQ:=Lib.hid (HB4.out.trans (HQ.out.mono HB4.out.size))
         by_cases hil:i<F1.length
         ·have hjl:decide ((i:Int)<(F1.length:Int))=true:=decide_eq_true (by omega)
          obtain⟨ae,hA5,g1⟩:=txt_at (T:=F1.map strOfNums) (by rw[hml7];have:=HR17.out.2.2;rwa [hml7]at this) HQ.out i (by omega)
          have hA6:A17=some ae:=hA5
          subst hA6
          rw[List.getElem_map]at g1
          obtain⟨af,hA7,g2⟩:=txt_at (T:=ps.map strOfNums) (by rw[hml];exact HP.out) (HB1.out.trans (HBQ.out.mono HB1.out.size)) (a+i) (by omega)
          have hA8:=Option.some.inj hA7
          subst hA8
          rw[List.getElem_map]at g2
          have hwa:IntKind.i64.wrap ((a:Int)+(i:Int))=(a:Int)+(i:Int):=by rw[IntKind.wrap_i64];omega
          have hai:((a:Int)+(i:Int)).toNat=a+i:=by omega
          have hain:a+i<ps.length:=by omega
          by_cases hf:strOfNums F1[i]=strOfNums (ps[a+i]'(by omega))
          ·have HEQ:Hid (∀j,j<i+1→F1[j]? =ps[a+j]?):=Lib.hid (seg_step HF.out HBT.out HE.out hil hain hf)
           rw[hf]at g1
           generalize strOfNums (ps[a+i]'(by omega))=sq at g1 g2
           clear hA5 hA7 hf
           go_wp2_with fail
           go_quiet (fail)
           go_wp2_with fail
           go_roundw
           case rel=>exact⟨i+1,by omega,by go_num,Lib.hid (pw_below_drewN HQ.out _),HEQ⟩
           case measure=>simp[intOf];omega
          ·obtain⟨q1,q2,q3⟩:=xeq_no hf
           have HFIN:=Lib.hid (HGF2.out.trans (if_neg (fun h=>hf (by rw[seg_at h.2.2 hil hain]))))
           generalize strOfNums (ps[a+i]'(by omega))=sq at g1 g2 q1 q2 q3
           generalize strOfNums F1[i]=sp at g1 q1 q2 q3
           clear hA5 hA7 hf
           go_wp2_with fail
           go_quiet (fail)
           have HBZ:=Lib.hid (pw_below_drewN HBQ.out nq)
           generalize wr.drewN nq=wz at HBZ ⊢
           obtain⟨o0,of0,o1,of1,o2,of2,o3,of3,o4,of4,o5,of5,o6,of6⟩:=fa14 (blk_below HK8.out HBZ.out)
           obtain⟨r0,r1,r2,r3,r4,r5,r6⟩:=fa7 (blk_below HK12.out HBZ.out)
           have HK8E:=Lib.hid (blk_below HK8.out HBZ.out)
           have HBE:=Lib.hid (HB1.out.trans (HBZ.out.mono HB1.out.size))
           go_wp2_with fail
           refine bodyPost_ret (results_cttt rfl _ _ b8 62 #[_,_,_,_,_,_,_] (0,0) _ rfl (blk_put7 HK8E.out _ _ _ _ _ _ _) HU.out rfl (by kernel_rfl)) rfl ?_
           rw[HFIN.out]
           have hb8w:=HB8.out
           have hbf:=below_put7 (g:=b8) HBE.out (Nat.le_of_eq hb8w) (.int .i64 0) (.string ⟨#[]⟩) (.int .u64 0) (.slice none 0 0) (.int .u64 0) (.int .u64 0) (.string ⟨#[]⟩)
           exact⟨_,A,c,rfl,Kd.R_nil _ _ _ _ _,hc,Kd.C_below HC.out hbf,hbf, .inl ⟨rfl,rfl,rfl⟩⟩
         ·obtain rfl:i=F1.length:=by omega
          have HFIN:=Lib.hid (HGF2.out.trans (if_pos ⟨by trivial,by trivial,seg_all hlt hln HE.out⟩))
          obtain⟨o0,of0,o1,of1,o2,of2,o3,of3,o4,of4,o5,of5,o6,of6⟩:=fa14 (blk_below HK8.out HBQ.out)
          obtain⟨r0,r1,r2,r3,r4,r5,r6⟩:=fa7 (blk_below HK4.out HQ.out)
          have HK8E:=Lib.hid (blk_below HK8.out HBQ.out)
          have HBE:=Lib.hid (HB1.out.trans (HBQ.out.mono HB1.out.size))
          go_wp2_with fail
          refine bodyPost_ret (results_cttt rfl _ _ b8 62 #[_,_,_,_,_,_,_] (0,0) _ rfl (blk_put7 HK8E.out _ _ _ _ _ _ _) HU.out rfl (by kernel_rfl)) rfl ?_
          rw[HFIN.out]
          have hb8w:=HB8.out
          have hb81:=blk_lt HK8.out
          have hkp:=kp_put7 wr b8 (.int .i64 k0) (.string x1) (.int .u64 x2) (.slice Ad ds.length cd) (.int .u64 x4) (.int .u64 x5) (.string x6)
          have hbf:=below_put7 (g:=b8) HBE.out (Nat.le_of_eq hb8w) (.int .i64 k0) (.string x1) (.int .u64 x2) (.slice Ad ds.length cd) (.int .u64 x4) (.int .u64 x5) (.string x6)
          rcases HOR.out with⟨e1,e2,e3⟩|h
          ·subst e1 e2 e3
           refine⟨_,_,_,rfl, ?_,HC4.out.1,Kd.C_below HC.out hbf,hbf, .inl ⟨rfl,rfl,rfl⟩⟩
           exact Kd.R_lower (Kd.R_mono (R_above' (Kd.R_bound (Kd.R_below HR4.out HQ.out)) hkp) (fun _ _=>trivial)) (by omega)
          ·have h2:=Kd.R_lower (Kd.R_below h HQ.out) (show W1.heap.size≤w3.heap.size from HBW3.out.size)
           have h3:=R_above' (Kd.R_bound h2) hkp
           refine⟨_,A',c',rfl, ?_,HC4.out.1,(Kd.R_reads' h3).2.2,hbf, .inr (Kd.R_lower (Kd.R_mono h3 (fun _ _=>trivial)) (by omega))⟩
           exact Kd.R_lower (Kd.R_mono (R_above' (Kd.R_bound (Kd.R_below HR4.out HQ.out)) hkp) (fun _ _=>trivial)) (by omega)
       ·have hle:((F1.length:Int) !=(n:Int)+1-(a:Int))=true:=by
         have: ¬(F1.length:Int)=(n:Int)+1-(a:Int):=by omega
         simpa using this
        have HFIN:=Lib.hid (HGF2.out.trans (if_neg (by
         rintro⟨_,_,h⟩
         have:=congrArg List.length h
         rw[List.length_drop,List.length_take]at this
         omega)))
        subst he
        obtain⟨o0,of0,o1,of1,o2,of2,o3,of3,o4,of4,o5,of5,o6,of6⟩:=fa14 (blk_below HK8.out HB4.out)
        obtain⟨r0,r1,r2,r3,r4,r5,r6⟩:=fa7 (blk_below HK12.out HB4.out)
        have HK8E:=Lib.hid (blk_below HK8.out HB4.out)
        have HBE:=Lib.hid (HB1.out.trans (HB4.out.mono HB1.out.size))
        go_wp2_with fail
        refine bodyPost_ret (results_cttt rfl _ _ b8 62 #[_,_,_,_,_,_,_] (0,0) _ rfl (blk_put7 HK8E.out _ _ _ _ _ _ _) HU.out rfl (by kernel_rfl)) rfl ?_
        rw[HFIN.out]
        have hb8w:=HB8.out
        have hbf:=below_put7 (g:=b8) HBE.out (Nat.le_of_eq hb8w) (.int .i64 0) (.string ⟨#[]⟩) (.int .u64 0) (.slice none 0 0) (.int .u64 0) (.int .u64 0) (.string ⟨#[]⟩)
        exact⟨_,A,c,rfl,Kd.R_nil _ _ _ _ _,hc,Kd.C_below HC.out hbf,hbf, .inl ⟨rfl,rfl,rfl⟩⟩
      ·have hne:(er !=0)=true:=by simpa using he
       have HFIN:=Lib.hid (HGF2.out.trans (if_neg (by rintro⟨_,h,_⟩;exact he h)))
       obtain⟨o0,of0,o1,of1,o2,of2,o3,of3,o4,of4,o5,of5,o6,of6⟩:=fa14 (blk_below HK8.out HB4.out)
       obtain⟨r0,r1,r2,r3,r4,r5,r6⟩:=fa7 (blk_below HK12.out HB4.out)
       have HK8E:=Lib.hid (blk_below HK8.out HB4.out)
       have HBE:=Lib.hid (HB1.out.trans (HB4.out.mono HB1.out.size))
       go_wp2_with fail
       refine bodyPost_ret (results_cttt rfl _ _ b8 62 #[_,_,_,_,_,_,_] (0,0) _ rfl (blk_put7 HK8E.out _ _ _ _ _ _ _) HU.out rfl (by kernel_rfl)) rfl ?_
       rw[HFIN.out]
       have hb8w:=HB8.out
       have hbf:=below_put7 (g:=b8) HBE.out (Nat.le_of_eq hb8w) (.int .i64 0) (.string ⟨#[]⟩) (.int .u64 0) (.slice none 0 0) (.int .u64 0) (.int .u64 0) (.string ⟨#[]⟩)
       exact⟨_,A,c,rfl,Kd.R_nil _ _ _ _ _,hc,Kd.C_below HC.out hbf,hbf, .inl ⟨rfl,rfl,rfl⟩⟩
  ·obtain rfl:n=ps.length:=by omega
   have hf:getF v T ps (a:Int)=(rec0,0,T,6):=by
    rw[getF_at HV.out hna (Nat.le_refl _) HD.out (fun h=>by omega),if_pos rfl]
   have HFIN:=Lib.hid hf
   clear hf
   obtain⟨o0,of0,o1,of1,o2,of2,o3,of3,o4,of4,o5,of5,o6,of6⟩:=fa14 (blk_below HK8.out HB.out)
   obtain⟨r0,r1,r2,r3,r4,r5,r6⟩:=fa7 (blk_below HK12.out HB.out)
   have HK8E:=Lib.hid (blk_below HK8.out HB.out)
   have HBE:=Lib.hid (HB1.out.trans (HB.out.mono HB1.out.size))
   go_wp2_with fail
   refine bodyPost_ret (results_cttt rfl _ _ b8 62 #[_,_,_,_,_,_,_] (0,0) _ rfl (blk_put7 HK8E.out _ _ _ _ _ _ _) HU.out rfl (by kernel_rfl)) rfl ?_
   rw[HFIN.out]
   have hb8w:=HB8.out
   have hbf:=below_put7 (g:=b8) HBE.out (Nat.le_of_eq hb8w) (.int .i64 0) (.string ⟨#[]⟩) (.int .u64 0) (.slice none 0 0) (.int .u64 0) (.int .u64 0) (.string ⟨#[]⟩)
   exact⟨_,A,c,rfl,Kd.R_nil _ _ _ _ _,hc,Kd.C_below HC.out hbf,hbf, .inl ⟨rfl,rfl,rfl⟩⟩
set_option maxHeartbeats 8000000 in
set_option maxRecDepth 100000 in
theorem rget_bad (W:World) (v:Int) (A:Option Addr) (c:Nat) (T:List ByteArray) (hC:Kd.C Kd.string W A T.length T) (hc:T.length≤c) (B:Option Addr) (d n:Nat) (at0 r:Int)
  (hr:(¬(1≤v∧v≤3)∧r=11)∨((1≤v∧v≤3)∧(at0<0∨(n:Int)<at0)∧r=1)):
  Calls Try.prog 40 #[.int .i64 v, .slice A T.length c, .slice B n d, .int .i64 at0] W (RGetPost W A c T (rec0,0,T,r)):=by
 obtain⟨W1,hW1⟩: ∃w,(W.alloc (.cells #[.int .i64 0, .string ⟨#[]⟩, .int .u64 0, .slice none 0 0, .int .u64 0, .int .u64 0, .string ⟨#[]⟩] 62)).alloc (.cells #[.int .i64 0, .string ⟨#[]⟩, .int .u64 0, .slice none 0 0, .int .u64 0, .int .u64 0, .string ⟨#[]⟩] 62)=w:=⟨_,rfl⟩
 have hb1:Below W.heap.size W W1:=by rw[←hW1];exact((Below.refl _ _).alloc (Nat.le_refl _) _).alloc (by rw[heap_size_alloc];omega) _
 have hk8:W1.heap[W.heap.size]? =some (.cells #[.int .i64 0, .string ⟨#[]⟩, .int .u64 0, .slice none 0 0, .int .u64 0, .int .u64 0, .string ⟨#[]⟩] 62 (0,0)):=by rw[←hW1];exact blk_alloc (heap_new _ _) _
 have hk12:W1.heap[W.heap.size+1]? =some (.cells #[.int .i64 0, .string ⟨#[]⟩, .int .u64 0, .slice none 0 0, .int .u64 0, .int .u64 0, .string ⟨#[]⟩] 62 (0,0)):=by
  rw[←hW1]
  have:=heap_new (W.alloc (.cells #[.int .i64 0, .string ⟨#[]⟩, .int .u64 0, .slice none 0 0, .int .u64 0, .int .u64 0, .string ⟨#[]⟩] 62)) (.cells #[.int .i64 0, .string ⟨#[]⟩, .int .u64 0, .slice none 0 0, .int .u64 0, .int .u64 0, .string ⟨#[]⟩] 62)
  rwa [heap_size_alloc]at this
 obtain⟨b8,hb8⟩: ∃b,W.heap.size=b:=⟨_,rfl⟩
 rw[hb8]at hk8 hk12
 have HC:=Lib.hid hC
 have HB1:=Lib.hid hb1
 have HK8:=Lib.hid hk8
 have HK12:=Lib.hid hk12
 have HW1:=Lib.hid hW1
 have HB8:=Lib.hid hb8
 have HU:=Lib.hid Try.underlying62
 obtain⟨o0,of0,o1,of1,o2,of2,o3,of3,o4,of4,o5,of5,o6,of6⟩:=fa14 HK8.out
 obtain⟨r0,r1,r2,r3,r4,r5,r6⟩:=fa7 HK12.out
 clear hC hb1 hk8 hk12 hW1 hb8
 have fin: ∀(e:Ending) (w':World),e= .returned (.tuple #[.agg #[.int .i64 0, .string ⟨#[]⟩, .int .u64 0, .slice none 0 0, .int .u64 0, .int .u64 0, .string ⟨#[]⟩], .int .i64 0, .slice A T.length c, .int .i64 r])→Below W.heap.size W w'→RGetPost W A c T (rec0,0,T,r) e w':=fun e w' he hb=>⟨_,A,c,he,Kd.R_nil _ _ _ _ _,hc,Kd.C_below HC.out hb,hb, .inl ⟨rfl,rfl,rfl⟩⟩
 have FIN:=Lib.hid fin
 clear fin
 rcases hr with⟨hv,rfl⟩|⟨hv,h0,rfl⟩
 ·by_cases hv1:v<1
  ·have d1:decide (v<1)=true:=decide_eq_true hv1
   go_enter Try.func40,Try.ntmps40
   go_wp2_with fail
   rw[HW1.out,HB8.out]
   go_wp2_with fail
   refine bodyPost_ret (results_cttt rfl _ _ b8 62 #[_,_,_,_,_,_,_] (0,0) _ rfl HK8.out HU.out rfl (by kernel_rfl)) rfl ?_
   exact FIN.out _ _ rfl HB1.out
  ·have d1:decide (v<1)=false:=decide_eq_false hv1
   have d2:decide (3<v)=true:=decide_eq_true (by omega)
   go_enter Try.func40,Try.ntmps40
   go_wp2_with fail
   rw[HW1.out,HB8.out]
   go_wp2_with fail
   refine bodyPost_ret (results_cttt rfl _ _ b8 62 #[_,_,_,_,_,_,_] (0,0) _ rfl HK8.out HU.out rfl (by kernel_rfl)) rfl ?_
   exact FIN.out _ _ rfl HB1.out
 ·have d1:decide (v<1)=false:=decide_eq_false (by omega)
  have d2:decide (3<v)=false:=decide_eq_false (by omega)
  by_cases h1:at0<0
  ·have d3:decide (at0<0)=true:=decide_eq_true h1
   go_enter Try.func40,Try.ntmps40
   go_wp2_with fail
   rw[HW1.out,HB8.out]
   go_wp2_with fail
   refine bodyPost_ret (results_cttt rfl _ _ b8 62 #[_,_,_,_,_,_,_] (0,0) _ rfl HK8.out HU.out rfl (by kernel_rfl)) rfl ?_
   exact FIN.out _ _ rfl HB1.out
  ·have d3:decide (at0<0)=false:=decide_eq_false h1
   have d4:decide ((n:Int)<at0)=true:=decide_eq_true (by omega)
   go_enter Try.func40,Try.ntmps40
   go_wp2_with fail
   rw[HW1.out,HB8.out]
   go_wp2_with fail
   refine bodyPost_ret (results_cttt rfl _ _ b8 62 #[_,_,_,_,_,_,_] (0,0) _ rfl HK8.out HU.out rfl (by kernel_rfl)) rfl ?_
   exact FIN.out _ _ rfl HB1.out
theorem rget_any (W:World) (v:Int) (A:Option Addr) (c:Nat) (T:List ByteArray) (hC:Kd.C Kd.string W A T.length T) (hc:T.length≤c) (hT:T.length≤50000) (hTd:T.Nodup) (hTs: ∀s∈T,s.size≤maxLen) (B:Option Addr) (d:Nat) (ps:List (List Int)) (hP:Kd.C Kd.string W B ps.length (ps.map strOfNums)) (hd:ps.length≤d) (hbt: ∀p∈ps,p.length≤3000∧∀x∈p,0≤x∧x<256) (hn:ps.length≤10000) (at0:Int):
  Calls Try.prog 40 #[.int .i64 v, .slice A T.length c, .slice B ps.length d, .int .i64 at0] W (RGetPost W A c T (getF v T ps at0)):=by
 by_cases hv:1≤v∧v≤3
 ·by_cases h0:at0<0∨(ps.length:Int)<at0
  ·have e:getF v T ps at0=(rec0,0,T,1):=by unfold getF;rw[if_neg (fun h=>h hv),if_pos h0]
   rw[e]
   exact rget_bad W v A c T hC hc B d ps.length at0 1 (.inr ⟨hv,h0,rfl⟩)
  ·obtain⟨a,rfl⟩: ∃a:Nat,at0=(a:Int):=⟨at0.toNat,by omega⟩
   exact rget_ok W v hv A c T hC hc hT hTd hTs B d ps hP hd hbt hn a (by omega)
 ·have e:getF v T ps at0=(rec0,0,T,11):=by unfold getF;rw[if_pos hv]
  rw[e]
  exact rget_bad W v A c T hC hc B d ps.length at0 11 (.inl ⟨hv,rfl⟩)
theorem getF_facts {v:Int} {T:List ByteArray} {ps:List (List Int)} {at0:Int} (hT:T.length≤50000) (hd:T.Nodup) (hs: ∀s∈T,s.size≤maxLen) (hps: ∀p∈ps,p.length≤3000∧∀x∈p,0≤x∧x<256):
  ((getF v T ps at0).2.2.2≠0→(getF v T ps at0).1=rec0)∧((getF v T ps at0).2.2.2=0→∃a n:Nat,at0=(a:Int)∧(getF v T ps at0).2.1=(n:Int)∧a≤n∧n≤ps.length∧putR v T (getF v T ps at0).1=((ps.take n).drop a,(getF v T ps at0).2.2.1,0)∧GoodR v (getF v T ps at0).1):=by
 unfold getF
 by_cases hv:1≤v∧v≤3
 ·rw [if_neg (fun h=>h hv)]
  by_cases h1:at0<0∨(ps.length:Int)<at0
  ·rw[if_pos h1]
   exact⟨fun _=>rfl,fun h=>absurd h (show ¬(1:Int)=0 by decide)⟩
  ·rw [if_neg h1]
   obtain⟨a,rfl⟩: ∃a:Nat,at0=(a:Int):=⟨at0.toNat,by omega⟩
   rw[Int.toNat_natCast]
   obtain⟨ds,hds⟩: ∃x,defsAt ps a=x:=⟨_,rfl⟩
   have hl:ds.length≤ps.length-a:=by
    rw[←hds];unfold defsAt
    have:=(List.takeWhile_sublist isDef (l:=ps.drop a)).length_le
    rw[List.length_drop]at this
    exact this
   rw[hds]
   dsimp only
   by_cases h2:a+ds.length=ps.length
   ·rw[if_pos h2]
    exact⟨fun _=>rfl,fun h=>absurd h (show ¬(6:Int)=0 by decide)⟩
   ·rw [if_neg h2]
    obtain⟨al,hal⟩: ∃x,tnewOn T (ds.map defS)=x:=⟨_,rfl⟩
    have hsz: ∀s∈al,s.size≤maxLen:=by
     intro s hsm
     rw[←hal,mem_tnewOn]at hsm
     rcases hsm with hsm|hsm
     ·exact hs s hsm
     ·obtain ⟨q,hq,rfl⟩:=List.mem_map.1 hsm
      have hqm:q∈ps:=by
       rw[←hds]at hq
       exact List.mem_of_mem_drop ((List.takeWhile_sublist _).subset hq)
      unfold defS
      rw[strOfNums_size,List.length_tail]
      have:=(hps q hqm).1
      simp only[maxLen]
      omega
    have hpm:ps.getD (a+ds.length) []∈ps:=by
     have e:ps.getD (a+ds.length) []=ps[a+ds.length]'(by omega):=by simp[show a+ds.length<ps.length by omega]
     rw[e];exact List.getElem_mem _
    have hrg:=lastR_rg (v:=v) (T:=al) (l:=ps.getD (a+ds.length) []) hsz (hps _ hpm).2 (by have:=(hps _ hpm).1;omega)
    rw[hal]
    generalize (lastR v al (ps.getD (a+ds.length) [])).1=r at hrg
    split
    ·rename_i h3
     refine⟨fun h=>absurd rfl h,fun _=>⟨a,a+ds.length+1,rfl,rfl,by omega,by omega, ?_, ?_⟩⟩
     ·have e:(ps.take (a+ds.length+1)).drop a=(ps.drop a).take (ds.length+1):=by rw[List.drop_take];congr 1;omega
      rw[e]
      unfold putR
      dsimp only
      rw[←h3.2,←h3.1]
     ·exact⟨putF_yes (T:=T) h3.1,hrg.r2,hrg.o,hrg.w,fun d hd=>(hrg.d d hd).2⟩
    ·exact⟨fun _=>rfl,fun h=>absurd h (show ¬(3:Int)=0 by decide)⟩
 ·rw[if_pos hv]
  exact⟨fun _=>rfl,fun h=>absurd h (show ¬(11:Int)=0 by decide)⟩
theorem byt_rng (s:ByteArray): ∀x∈bytesOf s,0≤x∧x<256:=by
 intro x hx
 unfold bytesOf at hx
 obtain⟨b,_,rfl⟩:=List.mem_map.1 hx
 have:=b.toNat_lt
 omega
theorem bytes9_C (W:World) (s:ByteArray) (b cap:Nat) (fr:Nat×Nat) (hl:s.size≤1000000) (h:W.heap[b]? =some (.cells (bytesRow s cap) 5 fr)):
  Kd.C (Kd.int .u8) W (some ⟨b,0,none⟩) (bytesOf s).length (bytesOf s):=by
 refine⟨rfl,by rw[bytesOf_length];omega,fun _=>⟨_,rfl,fun j p hj=>⟨[.int .u8 p],rfl,rfl,fun i u hu=> ?_⟩⟩⟩
 match i,hu with
 | 0,hu=>
  simp at hu;subst hu
  have hjl:j<s.data.size:=by
   have:=(List.getElem?_eq_some_iff.1 hj).1
   rw[bytesOf_length]at this
   exact this
  have e:(⟨b,0,none⟩:Addr).add (j*(Kd.int .u8).sz+0)=⟨b,j,none⟩:=by simp[Addr.add,show(Kd.int .u8).sz=1 from rfl];exact fun h=>h.symm
  rw[e,cell_of_blk h j,bytesRow_at s cap j hjl]
  obtain⟨h1,h2⟩:=List.getElem?_eq_some_iff.1 hj
  rw[←h2]
  simp[bytesOf]
 |i+1,hu=>simp at hu
def isPay (B:Nat) (pl:List ByteArray):Value→World→Prop:=fun v W=>∃vs,Kd.R valK 22 W B (fun _=>True) v vs∧vs.length=pl.length∧∀(k:Nat) (x: {v:Value //v.oneCell'=true}) s,vs[k]? =some x→pl[k]? =some s→RdB B W x.1 s
theorem isPay.kp {B:Nat} {pl:List ByteArray} {v:Value} {W W':World} {S:Nat→Prop} (h:isPay B pl v W) (hk:Kp W W' S) (hS: ∀k,S k→k<B∨∃cs fr,W.heap[k]? =some (.cells cs 62 fr)):isPay B pl v W':=by
 obtain⟨vs,hR,hl,hE⟩:=h
 refine⟨vs,Kd.R_mono (Kd.R_step (Kd.R_bound hR) (fun k hk' hlt=>hk.block k hlt (fun hs=> ?_))) (fun _ _=>trivial),hl,fun k x s hx hs=> ?_⟩
 ·rcases hS k hs with h1|⟨cs,fr,h1⟩
  ·have:=hk'.2.1;omega
  ·obtain⟨_,_,_,q,hq,cells,hc⟩:=hk'
   rw[hc]at h1
   injection h1 with h1
   injection h1 with _ h1
   subst h1
   simp[valK,Kd.scalar]at hq
 ·obtain ⟨b,c,cap,fr,h1,h2,h3,h4⟩:=hE k x s hx hs
  refine⟨b,c,cap,fr,h1,h2,h3,(hk.block b (Array.getElem?_eq_some_iff.1 h4).1 (fun hs=> ?_)).trans h4⟩
  rcases hS b hs with h5|⟨cs,fr2,h5⟩
  ·omega
  ·rw[h4]at h5
   injection h5 with h5
   injection h5 with _ h5
   exact absurd h5 (by decide)
theorem isPay.read {B:Nat} {pl:List ByteArray} {v:Value} {W:World} (h:isPay B pl v W) (hz: ∀s∈pl,s.size≤1000000) (hn:pl.length≤1000000): ∃A c,v= .slice A (pl.map bytesOf).length c∧(pl.map bytesOf).length≤c∧Kd.C kRows W A (pl.map bytesOf).length (pl.map bytesOf):=by
 obtain⟨vs,hR,hl,hE⟩:=h
 obtain⟨A,c,e,hc,hC⟩:=Kd.R_reads hR
 have hml:(pl.map bytesOf).length=vs.length:=by rw[List.length_map,hl]
 refine⟨A,c,by rw[e,hml],by rw[hml];exact hc,rfl,by rw[hml];omega,fun h0=> ?_⟩
 obtain⟨ad,ea,hcell⟩:=hC.2.2 (by omega)
 refine⟨ad,ea,fun j p hj=> ?_⟩
 obtain ⟨s,hs,rfl⟩: ∃s,pl[j]? =some s∧bytesOf s=p:=by
  rw[List.getElem?_map,Option.map_eq_some_iff]at hj
  exact hj
 have hjl:j<vs.length:=by have:=(List.getElem?_eq_some_iff.1 hs).1;omega
 obtain⟨cs,h1,h2,h3⟩:=hcell j vs[j] (List.getElem?_eq_getElem hjl)
 obtain⟨b,c2,cap,fr,e1,e2,e3,e4⟩:=hE j vs[j] s (List.getElem?_eq_getElem hjl) hs
 have hcs:cs=[vs[j].1]:=h2
 have hsm:s∈pl:=List.mem_of_getElem? hs
 refine⟨cs,h1,⟨some ⟨b,0,none⟩,c2,by rw[hcs,e1,bytesOf_length],by rw[bytesOf_length];exact e3,bytes9_C W s b cap fr (hz s hsm) e4⟩,h3⟩
abbrev boxP (b:Nat):Value:= .pointer (some ⟨b,0,none⟩)
def RelB (p m sl B:Nat) (S:Nat→Prop) (i:Nat) (a:Act) (v:Value) (W W':World):Prop:=
 (i=p∧Kp W W' S)∨(i=m∧v=boxP W.heap.size∧W.heap.size<W'.heap.size∧Below W.heap.size W W')∨
 (i=m+1∧∃b,a.tmps[sl]? =some (boxP b)∧B≤b∧(∃cs fr,W.heap[b]? =some (.cells cs 62 fr))∧Kp W W' (fun k=>k=b)∧∃u0 u1 u2 u3 u4 u5 u6,W'.heap[b]? =some (.cells #[u0,u1,u2,u3,u4,u5,u6] 62 (0,0)))∨
 (i≠p∧i≠m∧i≠m+1∧Below W.heap.size W W')
def isBox (B:Nat):Value→World→Prop:=fun v W=>∃b,v=boxP b∧B≤b∧∃u0 u1 u2 u3 u4 u5 u6,W.heap[b]? =some (.cells #[u0,u1,u2,u3,u4,u5,u6] 62 (0,0))
def FB (p m sl:Nat) (I:World→Prop) (P7:(Nat→Prop)→World→Prop) (FR:Nat→World→Prop) (j:Nat) (a:Act) (W:World):Prop:=
 I W∧(j=p→∃S1,P7 S1 W∧∀b,a.tmps[sl]? =some (boxP b)→¬S1 b)∧(j=m+1→∃b,a.tmps[sl]? =some (boxP b)∧FR b W)
def GB (p sl B:Nat) (I T7:World→Prop) (j:Nat) (a:Act) (W:World):Prop:=
 I W∧(j=p→T7 W∧∀b,a.tmps[sl]? =some (boxP b)→B≤b∧b<W.heap.size)
def VB (m B:Nat) (l:List (Value→World→Prop)) (j:Nat) (v:Value) (W:World):Prop:=if j=m then isBox B v W else byList l j v W
theorem RelB.kp {p m sl B:Nat} {S:Nat→Prop} {i:Nat} {a:Act} {v:Value} {W W':World} (h:RelB p m sl B S i a v W W'):Kp W W' (fun k=>S k∨(B≤k∧∃cs fr,W.heap[k]? =some (.cells cs 62 fr))):=by
 rcases h with⟨_,h⟩|⟨_,_,_,h⟩|⟨_,b,_,hb,ht,h,_⟩|⟨_,_,_,h⟩
 ·exact h.mono (fun _ h=> .inl h)
 ·exact Kp.of_below h _
 ·exact h.mono (fun k h=>by subst h;exact .inr ⟨hb,ht⟩)
 ·exact Kp.of_below h _
theorem put_ne {a:Act} {d:Option Tmp} {sl:Nat} {v:Value} (h:d≠some sl):(a.put d v).tmps[sl]? =a.tmps[sl]? :=by
 cases d with
 |none=>rfl
 |some d=>exact Array.getElem?_setIfInBounds_ne (fun e=>h (by rw[e]))
theorem boxP_inj {a b:Nat} (h:boxP a=boxP b):a=b:=by injection h with h;injection h with h;injection h
theorem box_any {P:Program} {id n base:Nat} {ops:Array Oper} {Q:Exit→Act→World→Prop} {a0:Act} {w0:World} (p m sl B:Nat) (S:Nat→Prop) (I T7:World→Prop) (P7:(Nat→Prop)→World→Prop) (FR:Nat→World→Prop) (l:List (Value→World→Prop))
  (hm:P.follows .mixedOrders=true) (hn:ops.size=n) (hpn:p<n) (hmn:m+1<n) (hpm:p<m) (hd:dstsOk ops a0.tmps.size=true) (hback:backA ops=true)
  (hsl: ∀i oi,ops[i]? =some oi→oi.dst=some sl→i=m) (hw1:waits ops (m+1) p=true) (hw2:waits ops (m+1) m=true)
  (hSB: ∀k,S k→base≤k∧k<B) (hbB:base≤B) (h00: ∀b,a0.tmps[sl]? ≠some (boxP b))
  (hI: ∀W W',Kp W W' (fun k=>S k∨B≤k)→I W→I W') (hT7: ∀W W',Kp W W' (fun k=>B≤k)→T7 W→T7 W')
  (hP7: ∀S1 S2 W W',Kp W W' S2→(∀k,S2 k→¬S1 k)→P7 S1 W→P7 S1 W') (hP7l: ∀S1 W k,P7 S1 W→S1 k→k<W.heap.size)
  (hFR: ∀b W W',Below W.heap.size W W'→FR b W→FR b W')
  (hl: ∀q∈l,∀v W W',Kp W W' (fun k=>S k∨(B≤k∧∃cs fr,W.heap[k]? =some (.cells cs 62 fr)))→q v W→q v W')
  (hsz:B≤w0.heap.size) (hI0:I w0) (hT0:T7 w0)
  (hs:AllLt n (StepFlowA P ops Q (VB m B l) (FB p m sl I P7 FR) (GB p sl B I T7) (RelB p m sl B S) a0 base w0))
  (he: ∀a W,Same ops a0 a→Below base w0 W→(∀j,j<n→Has ops (VB m B l) a W j)→I W→(∃S1,P7 S1 W)→(∃b,a.tmps[sl]? =some (boxP b)∧FR b W)→Q .normal a W):
  (Code.region id ops true).wp P Q a0 w0:=by
 refine wp_region_any hm ?_
 have hIk: ∀{i a v W W'},RelB p m sl B S i a v W W'→I W→I W':=fun h hi=>hI _ _ (h.kp.mono (fun k hk=>hk.imp (fun h=>h) (fun h=>h.1))) hi
 have hdr:Kp w0 { w0 with drawn:=w0.drawn+1 } (fun _=>False):=⟨rfl,rfl,rfl,Nat.le_refl _,fun _ _ _=>rfl⟩
 have:=flowA_any (P:=P) (Q:=Q) (w0:=w0) (w1:={ w0 with drawn:=w0.drawn+1 }) (VB m B l) (FB p m sl I P7 FR) (GB p sl B I T7) (RelB p m sl B S) hn hd hback ?hV ?hF ?hG ⟨rfl,rfl,rfl,Nat.le_refl _,fun _ _=>rfl⟩ ?hG0 hs ?he
 ·rw[hn];exact this
 case hV=>
  intro i j hi hj hij hw a u v W W' hB hr hv
  unfold VB at hv ⊢
  split
  ·rename_i hjm
   rw[if_pos hjm]at hv
   obtain⟨b,e,hb,u0,u1,u2,u3,u4,u5,u6,hk⟩:=hv
   rcases hr with⟨_,h⟩|⟨_,_,_,h⟩|⟨_,b',_,hb',ht,h,h2⟩|⟨_,_,_,h⟩
   ·exact⟨b,e,hb,_,_,_,_,_,_,_,h.heap hk (fun hs=>by have:=(hSB b hs).2;omega)⟩
   ·exact⟨b,e,hb,_,_,_,_,_,_,_,blk_below hk h⟩
   ·by_cases hbb:b=b'
    ·subst hbb;exact⟨b,e,hb,h2⟩
    ·exact⟨b,e,hb,_,_,_,_,_,_,_,h.heap hk hbb⟩
   ·exact⟨b,e,hb,_,_,_,_,_,_,_,blk_below hk h⟩
  ·rename_i hjm
   rw[if_neg hjm]at hv
   unfold byList at hv ⊢
   cases hlj:l[j]? with
   |none=>trivial
   |some q=>rw[hlj]at hv;exact hl q (List.mem_of_getElem? hlj) v W W' hr.kp hv
 case hF=>
  intro i j hi hj hij hw oi hoi a v W W' hB hr ⟨h1,h2,h3⟩
  refine⟨hIk hr h1,fun hjp=> ?_,fun hjm=> ?_⟩
  ·obtain ⟨S1,hp,hb⟩:=h2 hjp
   rcases hr with⟨e,_⟩|⟨e,hv,hlt,h⟩|⟨e,b',hs',hb',ht,h,_⟩|⟨e1,e2,e3,h⟩
   ·omega
   ·refine ⟨S1,hP7 S1 (fun _=>False) W W' (Kp.of_below h _) (fun _ h=>h.elim) hp,fun b hb2 hS=> ?_⟩
    subst hv
    by_cases hds:oi.dst=some sl
    ·rw [hds]at hb2
     simp only[Act.put,Array.getElem?_setIfInBounds_self]at hb2
     split at hb2
     ·have:=boxP_inj (Option.some.inj hb2)
      have:=hP7l S1 W b hp hS
      omega
     ·cases hb2
    ·rw[put_ne hds]at hb2
     exact hb b hb2 hS
   ·have hds:oi.dst≠some sl:=fun h'=>by have:=hsl i oi hoi h';omega
    refine⟨S1,hP7 S1 _ W W' h (fun k hk=>by subst hk;exact hb _ hs') hp,fun b hb2=> ?_⟩
    rw[put_ne hds]at hb2
    exact hb b hb2
   ·have hds:oi.dst≠some sl:=fun h'=>e2 (hsl i oi hoi h')
    refine⟨S1,hP7 S1 (fun _=>False) W W' (Kp.of_below h _) (fun _ h=>h.elim) hp,fun b hb2=> ?_⟩
    rw[put_ne hds]at hb2
    exact hb b hb2
  ·obtain ⟨b,hb1,hb2⟩:=h3 hjm
   subst hjm
   rcases hr with⟨e,_⟩|⟨e,hv,hlt,h⟩|⟨e,_⟩|⟨e1,e2,e3,h⟩
   ·subst e;rw[hw1]at hw;cases hw
   ·subst e;rw[hw2]at hw;cases hw
   ·omega
   ·have hds:oi.dst≠some sl:=fun h'=>e2 (hsl i oi hoi h')
    exact⟨b,by rw[put_ne hds];exact hb1,hFR b W W' h hb2⟩
 case hG=>
  intro i j hi hj hij hw oi hoi a v W W' hB hr ⟨h1,h2⟩
  refine⟨hIk hr h1,fun hjp=> ?_⟩
  obtain⟨ht,hb⟩:=h2 hjp
  have hkB:Kp W W' (fun k=>B≤k):=by
   rcases hr with⟨e,_⟩|⟨_,_,_,h⟩|⟨_,b,_,hb,_,h,_⟩|⟨_,_,_,h⟩
   ·omega
   ·exact Kp.of_below h _
   ·exact h.mono (fun k h=>by subst h;exact hb)
   ·exact Kp.of_below h _
  refine⟨hT7 _ _ hkB ht,fun b hb2=> ?_⟩
  by_cases hds:oi.dst=some sl
  ·have him:=hsl i oi hoi hds
   rcases hr with⟨e,_⟩|⟨e,hv,hlt,h⟩|⟨e,_⟩|⟨e1,e2,e3,h⟩
   ·omega
   ·subst hv
    rw[hds]at hb2
    simp only[Act.put,Array.getElem?_setIfInBounds_self]at hb2
    split at hb2
    ·have e:=boxP_inj (Option.some.inj hb2)
     subst e
     exact⟨Nat.le_trans hsz hB.size,hlt⟩
    ·cases hb2
   ·omega
   ·exact absurd him e2
  ·rw[put_ne hds]at hb2
   have:=hb b hb2
   exact⟨this.1,Nat.lt_of_lt_of_le this.2 hkB.size⟩
 case hG0=>exact fun i _=>⟨hI _ _ (hdr.mono (fun _ h=>h.elim)) hI0,fun _=>⟨hT7 _ _ (hdr.mono (fun _ h=>h.elim)) hT0,fun b hb=>absurd hb (h00 b)⟩⟩
 case he=>
  intro a W hS hB hh
  obtain⟨S1,hp,_⟩:=(hh p hpn).2.2.1 rfl
  exact he a W hS hB (fun j hj=>(hh j hj).1) (hh p hpn).2.1 ⟨S1,hp⟩ ((hh (m+1) hmn).2.2.2 rfl)
theorem R_kpRec {α:Type} {d:Kd α} {e B:Nat} {W W':World} {S:Nat→Prop} {v:Value} {xs:List α} (h:d.R e W B (fun _=>True) v xs) (hk:Kp W W' (fun k=>S k∨(B≤k∧∃cs fr,W.heap[k]? =some (.cells cs 62 fr)))) (hS: ∀k,S k→k<B) (ht: ∀q,q∈e::d.E→q≠62):d.R e W' B (fun _=>True) v xs:=
 Kd.R_mono (Kd.R_step (Kd.R_bound h) (fun k hk' hlt=>hk.block k hlt (fun hs=>by
  rcases hs with hs|⟨_,cs,fr,hc⟩
  ·have:=hS k hs;have:=hk'.2.1;omega
  ·obtain⟨_,_,_,q,hq,cells,hc2⟩:=hk'
   rw[hc2]at hc
   injection hc with hc
   injection hc with _ hc
   exact ht q hq hc))) (fun _ _=>trivial)
theorem R_noBox {α:Type} {d:Kd α} {e B b:Nat} {W W':World} {v:Value} {xs:List α} {cs:Array Value} {fr:Nat×Nat} (h:d.R e W B (fun _=>True) v xs) (hb:W.heap[b]? =some (.cells cs 62 fr)) (hk:Kp W W' (fun k=>k=b)) (ht: ∀q,q∈e::d.E→q≠62):d.R e W' B (fun k=>k≠b) v xs:=by
 have hne: ∀k,(∃q,q∈e::d.E∧∃cells,W.heap[k]? =some (.cells cells q (0,0)))→k≠b:=by
  rintro k ⟨q,hq,cells,hc⟩ rfl
  rw[hc]at hb
  injection hb with hb
  injection hb with _ hb
  exact ht q hq hb
 exact Kd.R_mono (Kd.R_step (Kd.R_bound h) (fun k hk' hlt=>hk.block k hlt (hne k hk'.2.2.2))) (fun k hk'=>hne k hk'.2.2.2)
section
variable {P:Program} {ops:Array Oper} {Q:Exit→Act→World→Prop} {a0:Act} {w0:World} {base i p m sl B:Nat} {S:Nat→Prop} {I T7:World→Prop} {P7:(Nat→Prop)→World→Prop} {FR:Nat→World→Prop} {l:List (Value→World→Prop)}
theorem StepB.run {o:Oper} (ho:ops[i]? =some o) (hg:o.guard=none) (hi:i≠p∧i≠m∧i≠m+1) (hI: ∀W W',Kp W W' (fun k=>S k∨B≤k)→I W→I W') (hbw:base≤w0.heap.size)
  (h: ∀a W,Same ops a0 a→Below base w0 W→(∀j,waitsA o j=true→Has ops (VB m B l) a W j)→I W→o.wp P a W (fun a' W'=>∃v,a'=a.put o.dst v∧VB m B l i v W'∧Below W.heap.size W W') Q):
  StepFlowA P ops Q (VB m B l) (FB p m sl I P7 FR) (GB p sl B I T7) (RelB p m sl B S) a0 base w0 i:=by
 intro oi a W hoi hS hB hd hG
 obtain rfl:o=oi:=by rw[ho]at hoi;exact Option.some.inj hoi
 rw[if_pos (wanted_none hg)]
 exact Oper.wp_mono (fun a' W' ⟨v,h1,h2,h3⟩=>⟨v,h1,fun _=>h2,⟨hI _ _ (Kp.of_below h3 _) hG.1,fun e=>absurd e hi.1,fun e=>absurd e hi.2.2⟩, .inr (.inr (.inr ⟨hi.1,hi.2.1,hi.2.2,h3⟩)),hB.trans (h3.mono (Nat.le_trans hbw hB.size))⟩) (h a W hS hB (fun j hj=>(hd j (by rw[waits_is hoi];exact hj)).1) hG.1)
theorem StepB.call {o:Oper} (ho:ops[i]? =some o) (hg:o.guard=none) (hi:i=p) (hpm:p<m) (hdn:o.dst≠some sl) (hI: ∀W W',Kp W W' (fun k=>S k∨B≤k)→I W→I W') (hbw:base≤w0.heap.size) (hSB: ∀k,S k→base≤k∧k<B)
  (h: ∀a W,Same ops a0 a→Below base w0 W→(∀j,waitsA o j=true→Has ops (VB m B l) a W j)→I W→T7 W→o.wp P a W (fun a' W'=>∃v,a'=a.put o.dst v∧VB m B l i v W'∧Kp W W' S∧∃S1,P7 S1 W'∧∀k,S1 k→k<B∨W.heap.size≤k) Q):
  StepFlowA P ops Q (VB m B l) (FB p m sl I P7 FR) (GB p sl B I T7) (RelB p m sl B S) a0 base w0 i:=by
 intro oi a W hoi hS hB hd hG
 obtain rfl:o=oi:=by rw[ho]at hoi;exact Option.some.inj hoi
 rw[if_pos (wanted_none hg)]
 have hG2:=hG.2 hi
 refine Oper.wp_mono (fun a' W' ⟨v,h1,h2,h3,S1,h4,h5⟩=>⟨v,h1,fun _=>h2,⟨hI _ _ (h3.mono (fun _ h=> .inl h)) hG.1,fun _=>⟨S1,h4,fun b hb hS1=> ?_⟩,fun e=>by omega⟩, .inl ⟨hi,h3⟩, ?_⟩) (h a W hS hB (fun j hj=>(hd j (by rw[waits_is hoi];exact hj)).1) hG.1 hG2.1)
 ·rw[h1,put_ne hdn]at hb
  have:=hG2.2 b hb
  have:=h5 b hS1
  omega
 ·exact⟨h3.os.trans hB.os,h3.tape.trans hB.tape,h3.output.trans hB.output,Nat.le_trans hB.size h3.size,fun k hk=>(h3.block k (by have:=hB.size;omega) (fun hs=>by have:=(hSB k hs).1;omega)).trans (hB.block k hk)⟩
theorem StepB.alloc {o:Oper} {z:Array Value} (ho:ops[i]? =some o) (hg:o.guard=none) (hi:i=m) (hpm:p<m) (hI: ∀W W',Kp W W' (fun k=>S k∨B≤k)→I W→I W') (hbw:base≤w0.heap.size) (hBw:B≤w0.heap.size) (hz: ∃u0 u1 u2 u3 u4 u5 u6,z=#[u0,u1,u2,u3,u4,u5,u6])
  (h: ∀(a:Act) W,(execOp a.eval o).run P W= .ok (.value (boxP W.heap.size)) (W.alloc (.cells z 62))):
  StepFlowA P ops Q (VB m B l) (FB p m sl I P7 FR) (GB p sl B I T7) (RelB p m sl B S) a0 base w0 i:=by
 intro oi a W hoi hS hB hd hG
 obtain rfl:o=oi:=by rw[ho]at hoi;exact Option.some.inj hoi
 rw[if_pos (wanted_none hg)]
 have hb:Below W.heap.size W (W.alloc (.cells z 62)):=(Below.refl _ _).alloc (Nat.le_refl _) _
 have hsz:=hB.size
 refine wpA (h a W) ?_ ⟨hI _ _ (Kp.of_below hb _) hG.1,fun e=>by omega,fun e=>by omega⟩ (.inr (.inl ⟨hi,rfl,by rw[heap_size_alloc];omega,hb⟩)) (hB.trans (hb.mono (by omega)))
 unfold VB
 rw[if_pos hi]
 obtain⟨u0,u1,u2,u3,u4,u5,u6,rfl⟩:=hz
 exact⟨W.heap.size,rfl,by omega,_,_,_,_,_,_,_,heap_new _ _⟩
theorem StepB.store {o om:Oper} (ho:ops[i]? =some o) (hg:o.guard=none) (hi:i=m+1) (hpm:p<m) (hdn:o.dst=none) (hwm:waitsA o m=true) (hom:ops[m]? =some om) (hds:om.dst=some sl) (hI: ∀W W',Kp W W' (fun k=>S k∨B≤k)→I W→I W') (hbw:base≤w0.heap.size) (hbB:base≤B)
  (h: ∀a W,Same ops a0 a→Below base w0 W→(∀j,waitsA o j=true→Has ops (VB m B l) a W j)→∀b u0 u1 u2 u3 u4 u5 u6,a.tmps[sl]? =some (boxP b)→B≤b→W.heap[b]? =some (.cells #[u0,u1,u2,u3,u4,u5,u6] 62 (0,0))→
   ∃v0 v1 v2 v3 v4 v5 v6,(execOp a.eval o).run P W= .ok .skip (((((((W.setCell ⟨b,0,none⟩ v0).setCell ⟨b,1,none⟩ v1).setCell ⟨b,2,none⟩ v2).setCell ⟨b,3,none⟩ v3).setCell ⟨b,4,none⟩ v4).setCell ⟨b,5,none⟩ v5).setCell ⟨b,6,none⟩ v6)∧
    ∀W',W'.heap[b]? =some (.cells #[v0,v1,v2,v3,v4,v5,v6] 62 (0,0))→Kp W W' (fun k=>k=b)→FR b W'):
  StepFlowA P ops Q (VB m B l) (FB p m sl I P7 FR) (GB p sl B I T7) (RelB p m sl B S) a0 base w0 i:=by
 intro oi a W hoi hS hB hd hG
 obtain rfl:o=oi:=by rw[ho]at hoi;exact Option.some.inj hoi
 rw[if_pos (wanted_none hg)]
 have hd2: ∀j,waitsA o j=true→Has ops (VB m B l) a W j:=fun j hj=>(hd j (by rw[waits_is hoi];exact hj)).1
 obtain⟨x,hx1,hx2⟩:=hd2 m hwm om sl hom hds
 unfold VB at hx2
 rw[if_pos rfl]at hx2
 obtain⟨b,rfl,hb,u0,u1,u2,u3,u4,u5,u6,hk⟩:=hx2
 obtain⟨v0,v1,v2,v3,v4,v5,v6,hrun,hfr⟩:=h a W hS hB hd2 b u0 u1 u2 u3 u4 u5 u6 hx1 hb hk
 have hk2:=blk_put7 hk v0 v1 v2 v3 v4 v5 v6
 have hkp:=kp_put7 W b v0 v1 v2 v3 v4 v5 v6
 generalize (((((((W.setCell ⟨b,0,none⟩ v0).setCell ⟨b,1,none⟩ v1).setCell ⟨b,2,none⟩ v2).setCell ⟨b,3,none⟩ v3).setCell ⟨b,4,none⟩ v4).setCell ⟨b,5,none⟩ v5).setCell ⟨b,6,none⟩ v6)=W' at*
 refine wpA_skip hrun hdn ⟨hI _ _ (hkp.mono (fun k hk=>by subst hk;exact .inr hb)) hG.1,fun e=>by omega,fun _=>⟨b,hx1,hfr W' hk2 hkp⟩⟩ (.inr (.inr (.inl ⟨hi,b,hx1,hb,⟨_,_,hk⟩,hkp,_,_,_,_,_,_,_,hk2⟩))) ?_
 exact⟨hkp.os.trans hB.os,hkp.tape.trans hB.tape,hkp.output.trans hB.output,Nat.le_trans hB.size hkp.size,fun k hk=>(hkp.block k (by have:=hB.size;omega) (fun hs=>by have:k=b:=hs;omega)).trans (hB.block k hk)⟩
end
theorem noRecDep: ∀q,q∈109::(k109).E→q≠62:=by
 intro q hq e
 subst e
 revert hq
 decide
theorem noRecStr: ∀q,q∈9::Kd.string.E→q≠62:=by
 intro q hq e
 subst e
 revert hq
 decide
def isRS (B:Nat) (T2:List ByteArray):Value→World→Prop:=fun v W=>Kd.R Kd.string 9 W B (fun _=>True) v T2
def isRc (B:Nat) (k0:Int) (x1:ByteArray) (x2:Int) (ds:List S109) (x4 x5:Int) (x6:ByteArray):Value→World→Prop:=fun v W=>∃dv,v= .agg #[.int .i64 k0, .string x1, .int .u64 x2,dv, .int .u64 x4, .int .u64 x5, .string x6]∧Kd.R k109 109 W B (fun _=>True) dv ds
def isGotA (B:Nat) (k0:Int) (x1:ByteArray) (x2:Int) (ds:List S109) (x4 x5:Int) (x6:ByteArray) (nx er:Int):Value→World→Prop:=fun v W=>∃dv,v= .tuple #[.agg #[.int .i64 k0, .string x1, .int .u64 x2,dv, .int .u64 x4, .int .u64 x5, .string x6], .int .i64 nx, .int .i64 er]∧Kd.R k109 109 W B (fun _=>True) dv ds
def isGotB (B:Nat) (k0:Int) (x1:ByteArray) (x2:Int) (ds:List S109) (x4 x5:Int) (x6:ByteArray) (nx:Int) (T2:List ByteArray) (er:Int):Value→World→Prop:=fun v W=>∃dv tv,v= .tuple #[.agg #[.int .i64 k0, .string x1, .int .u64 x2,dv, .int .u64 x4, .int .u64 x5, .string x6], .int .i64 nx,tv, .int .i64 er]∧Kd.R k109 109 W B (fun _=>True) dv ds∧isRS B T2 tv W
section
variable {base B:Nat} {S:Nat→Prop} {W W':World} {v:Value} {k0:Int} {x1:ByteArray} {x2:Int} {ds:List S109} {x4 x5:Int} {x6:ByteArray} {nx er:Int} {T2 pl:List ByteArray}
theorem isRS.kpR (h:isRS B T2 v W) (hS: ∀k,S k→base≤k∧k<B) (hk:Kp W W' (fun k=>S k∨(B≤k∧∃cs fr,W.heap[k]? =some (.cells cs 62 fr)))):isRS B T2 v W':=R_kpRec h hk (fun k hs=>(hS k hs).2) noRecStr
theorem isRc.kpR (h:isRc B k0 x1 x2 ds x4 x5 x6 v W) (hS: ∀k,S k→base≤k∧k<B) (hk:Kp W W' (fun k=>S k∨(B≤k∧∃cs fr,W.heap[k]? =some (.cells cs 62 fr)))):isRc B k0 x1 x2 ds x4 x5 x6 v W':=by
 obtain⟨dv,e,h⟩:=h
 exact⟨dv,e,R_kpRec h hk (fun k hs=>(hS k hs).2) noRecDep⟩
theorem isGotA.kpR (h:isGotA B k0 x1 x2 ds x4 x5 x6 nx er v W) (hS: ∀k,S k→base≤k∧k<B) (hk:Kp W W' (fun k=>S k∨(B≤k∧∃cs fr,W.heap[k]? =some (.cells cs 62 fr)))):isGotA B k0 x1 x2 ds x4 x5 x6 nx er v W':=by
 obtain⟨dv,e,h⟩:=h
 exact⟨dv,e,R_kpRec h hk (fun k hs=>(hS k hs).2) noRecDep⟩
theorem isGotB.kpR (h:isGotB B k0 x1 x2 ds x4 x5 x6 nx T2 er v W) (hS: ∀k,S k→base≤k∧k<B) (hk:Kp W W' (fun k=>S k∨(B≤k∧∃cs fr,W.heap[k]? =some (.cells cs 62 fr)))):isGotB B k0 x1 x2 ds x4 x5 x6 nx T2 er v W':=by
 obtain⟨dv,tv,e,h,h2⟩:=h
 exact⟨dv,tv,e,R_kpRec h hk (fun k hs=>(hS k hs).2) noRecDep,h2.kpR hS hk⟩
theorem isPay.kpR (h:isPay B pl v W) (hS: ∀k,S k→base≤k∧k<B) (hk:Kp W W' (fun k=>S k∨(B≤k∧∃cs fr,W.heap[k]? =some (.cells cs 62 fr)))):isPay B pl v W':=
 h.kp hk (fun k hs=>hs.imp (fun h=>(hS k h).2) (fun h=>h.2))
theorem isPay.read' {A:Option Addr} {n c:Nat} (h:isPay B pl (.slice A n c) W) (hz: ∀s∈pl,s.size≤1000000) (hn:pl.length≤1000000):Kd.C kRows W A (pl.map bytesOf).length (pl.map bytesOf):=by
 obtain⟨A',c',e,_,h2⟩:=h.read hz hn
 cases e
 exact h2
end
theorem RdB.lower {B B':Nat} {W:World} {v:Value} {s:ByteArray} (h:RdB B W v s) (hb:B'≤B):RdB B' W v s:=by
 obtain⟨b,c,cap,fr,h1,h2,h3,h4⟩:=h
 exact⟨b,c,cap,fr,h1,Nat.le_trans hb h2,h3,h4⟩
def I6 (b5:Nat) (v at0:Int) (S2:Nat→Prop) (g2:Nat) (T0:List ByteArray) (W:World):Prop:=W.heap[b5]? =some (.cells #[.int .i64 v, .int .i64 at0] 79 (0,0))∧Tab W S2 g2 T0
def P6 (g1 B:Nat) (S:Nat→Prop) (T2:List ByteArray) (S':Nat→Prop) (W:World):Prop:=Tab W S' g1 T2∧∀k,S' k→S k∨B≤k
theorem P6.kp {g1 B:Nat} {S S1 S2:Nat→Prop} {T2:List ByteArray} {W W':World} (h:P6 g1 B S T2 S1 W) (hk:Kp W W' S2) (hn: ∀k,S2 k→¬S1 k):P6 g1 B S T2 S1 W':=⟨h.1.keep hk (fun k h1 h2=>hn k h2 h1),h.2⟩
def FR6 (B:Nat) (k0:Int) (x1:ByteArray) (x2:Int) (ds:List S109) (x4 x5:Int) (x6:ByteArray) (b:Nat) (W:World):Prop:=
 B≤b∧∃dv,W.heap[b]? =some (.cells #[.int .i64 k0, .string x1, .int .u64 x2,dv, .int .u64 x4, .int .u64 x5, .string x6] 62 (0,0))∧Kd.R k109 109 W B (fun k=>k≠b) dv ds
theorem FR6.below {B:Nat} {k0:Int} {x1:ByteArray} {x2:Int} {ds:List S109} {x4 x5:Int} {x6:ByteArray} {b:Nat} {W W':World} (h:FR6 B k0 x1 x2 ds x4 x5 x6 b W) (hb:Below W.heap.size W W'):FR6 B k0 x1 x2 ds x4 x5 x6 b W':=by
 obtain⟨h1,dv,h2,h3⟩:=h
 exact⟨h1,dv,blk_below h2 hb,Kd.R_below h3 hb⟩
structure I7 (b5 b9:Nat) (v at0:Int) (S1 S2:Nat→Prop) (g1 g2:Nat) (T2 T0:List ByteArray) (B6 B7:Nat) (dv:Value) (k0:Int) (x1:ByteArray) (x2:Int) (ds:List S109) (x4 x5:Int) (x6:ByteArray) (W:World):Prop where
 box:W.heap[b5]? =some (.cells #[.int .i64 v, .int .i64 at0] 79 (0,0))
 t1:Tab W S1 g1 T2
 t2:Tab W S2 g2 T0
 box9:W.heap[b9]? =some (.cells #[.int .i64 k0, .string x1, .int .u64 x2,dv, .int .u64 x4, .int .u64 x5, .string x6] 62 (0,0))
 deps:Kd.R k109 109 W B6 (fun k=>k<B7) dv ds
theorem I7.kp {b5 b9:Nat} {v at0:Int} {S1 S2:Nat→Prop} {g1 g2:Nat} {T2 T0:List ByteArray} {B6 B7:Nat} {dv:Value} {k0:Int} {x1:ByteArray} {x2:Int} {ds:List S109} {x4 x5:Int} {x6:ByteArray} {W W':World} (h:I7 b5 b9 v at0 S1 S2 g1 g2 T2 T0 B6 B7 dv k0 x1 x2 ds x4 x5 x6 W)
  {S:Nat→Prop} (hk:Kp W W' S) (h5: ¬S b5) (h9: ¬S b9) (h1: ∀k,S1 k→¬S k) (h2: ∀k,S2 k→¬S k) (h3: ∀k,k<B7→B6≤k→¬S k):I7 b5 b9 v at0 S1 S2 g1 g2 T2 T0 B6 B7 dv k0 x1 x2 ds x4 x5 x6 W':=
 ⟨hk.heap h.box h5,h.t1.keep hk h1,h.t2.keep hk h2,hk.heap h.box9 h9,Kd.R_mono (Kd.R_step (Kd.R_bound h.deps) (fun k hk' hlt=>hk.block k hlt (h3 k hk'.1 hk'.2.1))) (fun k hk'=>hk'.1)⟩
theorem I7.below {b5 b9:Nat} {v at0:Int} {S1 S2:Nat→Prop} {g1 g2:Nat} {T2 T0:List ByteArray} {B6 B7:Nat} {dv:Value} {k0:Int} {x1:ByteArray} {x2:Int} {ds:List S109} {x4 x5:Int} {x6:ByteArray} {W W':World} (h:I7 b5 b9 v at0 S1 S2 g1 g2 T2 T0 B6 B7 dv k0 x1 x2 ds x4 x5 x6 W) (hb:Below W.heap.size W W'):I7 b5 b9 v at0 S1 S2 g1 g2 T2 T0 B6 B7 dv k0 x1 x2 ds x4 x5 x6 W':=
 h.kp (Kp.of_below hb (fun _=>False)) (fun h=>h) (fun h=>h) (fun _ _ h=>h) (fun _ _ h=>h) (fun _ _ _ h=>h)
theorem wp_calledK {P:Program} {Q:Exit→Act→World→Prop} {R:Value→World→Prop} {o:Oper} {a:Act} {W:World} {f:FuncId} {fn:Func} {xs:Array Operand} {ts:Array TypeId} (hf:P.funcs[f]? =some fn) (hname:(fn.name== "runtime.NumGoroutine")=false) (hb:fn.body.isSome=true) (args:Array Value)
  (hop:o.op= .call { callee:= .value (.func f),args:=xs,argTypes:=ts }) (hargs:xs.map a.eval=args)
  (h:Calls P f args W fun e w'=>∃v,e= .returned v∧R v w'):o.wp P a W (fun a' W'=>∃v,a'=a.put o.dst v∧R v W') Q:=by
 have h1:fn.name≠ "runtime.NumGoroutine" :=by simpa using hname
 obtain⟨c,hc⟩:=Option.isSome_iff_exists.1 hb
 have he:(callFunc f args).run P W= .ok (.enter f args) W:=by simp[callFunc,hf,h1,hc]
 have hrun:(execOp a.eval o).run P W= .ok (.enter f args) W:=by
  unfold execOp
  simp[hop,resolve,Deferred.ofValue,invoke,Act.eval,hargs,he]
 unfold Oper.wp
 rw[hrun,Oper.upon_enter]
 refine h.mono fun e w'' hh=> ?_
 obtain⟨v,rfl,hk⟩:=hh
 exact⟨v,rfl,hk⟩
theorem run_slice_seg {P:Program} (W:World) (t e:TypeId) (ht:P.underlying t=some (.slice e)) (hz: ∀w,(Go.sizeOf e).run P w= .ok 1 w) (ad:Addr) (len cap l h:Nat) (hlh:l<h) (hh:h≤cap):
  (Instr.slice t (.slice (some ad) len cap) (some (.int .i64 (l:Int))) (some (.int .i64 (h:Int))) none).run P W= .ok (.slice (some (ad.add l)) (h-l) (cap-l)) W:=by
 have ht':P.underlying t=some (.slice (P.elem t)):=by simp[Program.elem,ht]
 have he:P.elem t=e:=by simp[Program.elem,ht]
 rw[run_slice_lh W t _ _ _ ht' .i64 .i64 _ _ (by omega) (by omega) (by omega),he,hz]
 have hne: ¬cap=l:=by omega
 by_cases h0:l=0
 ·subst h0
  simp[Result.andThen,sliced,hne]
 ·simp[Result.andThen,sliced,hne,h0]
end Go.Proofs.Ytmeocdkiecknkaa
namespace Go.Proofs.Ytmeocdkiecknkaa
open Go.RowKit Go.Proofs.YtmeocdkiecknkaaW.PrintWords Go.Proofs.Ytmeocdkiecknkaa.GRR
set_option maxRecDepth 100000 in
set_option maxHeartbeats 2000000 in
theorem rsame_any (k0:Int) (x1:ByteArray) (x2:Int) (ds:List S109) (x4 x5:Int) (x6:ByteArray) (A3 A4:Option Addr) (c3 c4:Nat) (w:World) (hA3:Kd.C k109 w A3 ds.length ds) (hA4:Kd.C k109 w A4 ds.length ds):
  Calls Try.prog 38 #[.agg #[.int .i64 k0, .string x1, .int .u64 x2, .slice A3 ds.length c3, .int .u64 x4, .int .u64 x5, .string x6], .agg #[.int .i64 k0, .string x1, .int .u64 x2, .slice A4 ds.length c4, .int .u64 x4, .int .u64 x5, .string x6]] w fun e w'=>e= .returned (.bool true)∧Below w.heap.size w w':=by
 have hm:=hA3.2.1
 obtain⟨w1,hw1⟩: ∃w1,(w.alloc (.cells #[.int .i64 k0, .string x1, .int .u64 x2, .slice A3 ds.length c3, .int .u64 x4, .int .u64 x5, .string x6] 62)).alloc (.cells #[.int .i64 k0, .string x1, .int .u64 x2, .slice A4 ds.length c4, .int .u64 x4, .int .u64 x5, .string x6] 62)=w1:=⟨_,rfl⟩
 have hb1:Below w.heap.size w w1:=by rw[←hw1];exact((Below.refl _ _).alloc (Nat.le_refl _) _).alloc (by rw[heap_size_alloc];omega) _
 have k2:w1.heap[w.heap.size]? =some (.cells #[.int .i64 k0, .string x1, .int .u64 x2, .slice A3 ds.length c3, .int .u64 x4, .int .u64 x5, .string x6] 62 (0,0)):=by rw[←hw1];exact blk_alloc (heap_new _ _) _
 have k3:w1.heap[w.heap.size+1]? =some (.cells #[.int .i64 k0, .string x1, .int .u64 x2, .slice A4 ds.length c4, .int .u64 x4, .int .u64 x5, .string x6] 62 (0,0)):=by
  rw[←hw1]
  have:=heap_new (w.alloc (.cells #[.int .i64 k0, .string x1, .int .u64 x2, .slice A3 ds.length c3, .int .u64 x4, .int .u64 x5, .string x6] 62)) (.cells #[.int .i64 k0, .string x1, .int .u64 x2, .slice A4 ds.length c4, .int .u64 x4, .int .u64 x5, .string x6] 62)
  rwa [heap_size_alloc]at this
 obtain⟨b2,hbb⟩: ∃b,w.heap.size=b:=⟨_,rfl⟩
 rw[hbb]at k2 k3
 have HA3:=Lib.hid hA3
 have HA4:=Lib.hid hA4
 have HB1:=Lib.hid hb1
 have HW1:=Lib.hid hw1
 have HK2:=Lib.hid k2
 have HK3:=Lib.hid k3
 have HBB:=Lib.hid hbb
 clear hA3 hA4 hb1 hw1 k2 k3 hbb
 go_enter Try.func38,Try.ntmps38
 go_wp2_with fail
 rw[HW1.out,HBB.out]
 go_loopw [5] (fun u wr=>∃(i:Nat),i≤ds.length∧u= .int .i64 (i:Int)∧Hid (Below w1.heap.size w1 wr)) (fun u _=>ds.length-(intOf u).toNat)
 case atStart=>exact⟨0,by omega,rfl,Lib.hid (Below.refl _ _)⟩
 case round=>
  obtain⟨i,hi,rfl,HB⟩:=hrel
  have hk2:=blk_below HK2.out HB.out
  have s3:wr.cell? ⟨b2,3,none⟩=some (.slice A3 ds.length c3):=(blk_cell hk2 3).trans rfl
  by_cases hlt:i<ds.length
  ·have hdl:decide ((i:Int)<(ds.length:Int))=true:=decide_eq_true (by omega)
   have hbw:=HB1.out.trans (HB.out.mono HB1.out.size)
   obtain⟨ad3,h3,g0,g1,g2⟩:=at_T109 (Kd.C_below HA3.out hbw) (i:Int) (by omega) (by omega)
   obtain⟨ad4,h4,q0,q1,q2⟩:=at_T109 (Kd.C_below HA4.out hbw) (i:Int) (by omega) (by omega)
   subst h3 h4
   rw[rd_dep ds i hlt,Int.toNat_natCast]at g0 g1 g2 q0 q1 q2
   generalize ds[i]=d at g0 g1 g2 q0 q1 q2
   obtain⟨d0,d1,d2⟩:=d
   dsimp only at g0 g1 g2 q0 q1 q2
   have hk3:=blk_below HK3.out HB.out
   have u3:wr.cell? ⟨b2+1,3,none⟩=some (.slice (some ad4) ds.length c4):=(blk_cell hk3 3).trans rfl
   clear hk2 hk3 hbw
   go_wp2_with fail
   go_quiet (fail)
   go_wp2_with fail
   go_roundw
   case rel=>exact⟨i+1,by omega,by go_num,Lib.hid (pw_below_drewN HB.out _)⟩
   case measure=>simp[intOf];omega
  ·obtain rfl:i=ds.length:=by omega
   clear hk2
   go_wp2_with fail
   go_ret
   exact⟨rfl,HB1.out.trans (HB.out.mono HB1.out.size)⟩
end Go.Proofs.Ytmeocdkiecknkaa
