/- Texts laid as one by shake.py, cut to what the claim needs: CoP, CoQ. (Names that begin with W and the print's groups (G..x, G..z): laid by the kit's print, cut.) -/
import Derived.Test.YtfflenbfapgilaaGreatZCv
import Derived.Test.YtfflenbfapgilaaGreatZCB
set_option linter.unusedVariables false
set_option linter.unusedSimpArgs false
set_option maxHeartbeats 8000000
set_option maxRecDepth 100000
namespace Go.Proofs.YtfflenbfapgilaaGreat
open Go.RowKit Go.Proofs.YtfflenbfapgilaaGreatW.PrintWords Go.Proofs.YtfflenbfapgilaaGreat.GRR
def framesL (rows:List (List Int)):List Int:=(rows.map frameL).flatten
theorem framesL_take (rows:List (List Int)) (i:Nat) (h:i<rows.length):framesL (rows.take (i+1))=framesL (rows.take i)++frameL rows[i]:=by
 unfold framesL
 rw[List.take_succ_eq_append_getElem h,List.map_append,List.flatten_append];simp
def codL (v:Int):List Rec9→List Int→List ByteArray→List Int×Int
 | [],b,_=>(b,0)
 |r::rs,b,T=>if (putR v T r).2.2=0 then codL v rs (b++framesL (putR v T r).1) (putR v T r).2.1 else([],(putR v T r).2.2)
def codF (v:Int) (l:List Rec9):List Int×Int:=if 1≤v∧v≤3 then codL v l (headL v) []else([],11)
theorem codL_len (v:Int): ∀(l:List Rec9) (b:List Int) (T:List ByteArray),(codL v l b T).2=0→b.length≤(codL v l b T).1.length:=by
 intro l
 induction l with
 |nil=>intro b T _;exact Nat.le_refl _
 | cons r rs ih=>
  intro b T h
  rw[codL]at h ⊢
  split at h
  ·rename_i hc
   rw[if_pos hc]
   have:=ih _ _ h
   rw[List.length_append]at this
   omega
  ·rename_i hc
   exact absurd h hc
theorem put_len {v:Int} {T:List ByteArray} {r:Rec9} (hT:T.length≤50000) (hd:T.Nodup) (h:GoodR v r): ∀p∈(putR v T r).1,1≤p.length∧p.length≤2048:=by
 have M:=may_facts h.may
 have hf:=put_fit hT hd h
 have e:=putF_may T h.may
 obtain⟨T',hT'⟩: ∃T',(if 1<v then tnewOn T (tnew (namesL r.2.1 r.2.2.2.1 r.2.2.2.2.2.2))else T)=T':=⟨_,rfl⟩
 rw[hT']at e
 rw[e]at hf ⊢
 have hpre: ∃m,T'=T++m:=by
  rw[←hT']
  split
  ·exact tnewOn_prefix _ _
  ·exact⟨[],by simp⟩
 have hnd:=hf.nd
 have hz:=hf.z
 have ht:=hf.t
 dsimp only at hnd hz ht
 intro p hp
 rcases List.mem_append.1 hp with hp|hp
 ·unfold moreE at hp
  obtain⟨s,hs,rfl⟩:=List.mem_map.1 hp
  obtain⟨m,hm⟩:=hpre
  rw[hm,List.drop_left]at hs
  have hs64:s.size≤64:=by
   rcases hz s (by rw[hm];exact List.mem_append_right _ hs)with h1|h1
   ·rw[hm]at hnd
    exact absurd rfl ((List.nodup_append.1 hnd).2.2 s h1 s hs)
   ·exact h1
  unfold defE
  rw[List.length_cons,bytesOf_length]
  omega
 ·simp only[List.mem_singleton]at hp
  subst hp
  have h1:=textE_len v T' (by omega) r.2.1 M.t.2
  have h2:=bodyE_len v T' (by omega) r.2.2.1 r.2.2.2.1 r.2.2.2.2.1 r.2.2.2.2.2.1 r.2.2.2.2.2.2 M.n (fun d hd=>⟨(M.d d hd).2.1,(h.num.d d hd).2⟩) h.num.r2.2 h.num.o.2 h.num.w.2
  unfold lastE
  simp only[List.length_append,List.length_cons,List.length_nil]
  split
  ·simp only[List.length_nil];omega
  ·omega
theorem frameL_len (p:List Int) (h:p.length≤2048):(frameL p).length≤2100∧(blob (strOfNums p)).length≤3000∧∀x∈blob (strOfNums p),0≤x∧x<256:=by
 have hs:(strOfNums p).size=p.length:=strOfNums_size p
 have hb:(blob (strOfNums p)).length≤2058:=by rw[blob_len,hs];have:=vb_len10 p.length (by omega);omega
 refine⟨?_,by omega,blob_bytes _ (by rw[hs];omega)⟩
 unfold frameL
 rw[List.length_append]
 have:(crcB (Crc.sum (nats (blob (strOfNums p))))).length=4:=by simp[crcB]
 omega
theorem framesL_len (rows:List (List Int)) (c:Nat) (h: ∀p∈rows,(frameL p).length≤c):(framesL rows).length≤c*rows.length:=by
 induction rows with
 |nil=>simp[framesL]
 |cons a r ih=>
  have h1:=ih (fun p hp=>h p (List.mem_cons_of_mem _ hp))
  have h2:=h a List.mem_cons_self
  have e:framesL (a::r)=frameL a++framesL r:=by simp[framesL]
  rw[e,List.length_append,List.length_cons,Nat.mul_succ]
  omega
theorem framesL_app (a b:List (List Int)):framesL (a++b)=framesL a++framesL b:=by simp[framesL]
theorem frameL_len2 (p:List Int) (n:Nat) (h:p.length≤n) (hn:n≤2048):(frameL p).length≤n+14:=by
 have hs:(strOfNums p).size=p.length:=strOfNums_size p
 unfold frameL
 rw[List.length_append,blob_len,hs]
 have:=vb_len10 p.length (by omega)
 have:(crcB (Crc.sum (nats (blob (strOfNums p))))).length=4:=by simp[crcB]
 omega
theorem put_frames_len {v:Int} {T:List ByteArray} {r:Rec9} (hT:T.length≤50000) (hd:T.Nodup) (h:GoodR v r):(framesL (putR v T r).1).length≤4000:=by
 have hp:=put_len hT hd h
 have hf:=put_fit hT hd h
 have e:=putF_may T h.may
 obtain⟨T',hT'⟩: ∃T',(if 1<v then tnewOn T (tnew (namesL r.2.1 r.2.2.2.1 r.2.2.2.2.2.2))else T)=T':=⟨_,rfl⟩
 rw[hT']at e
 rw[e]at hf hp ⊢
 have hn:=hf.n1
 dsimp only at hn hp ⊢
 rw[List.length_append,List.length_singleton]at hn
 rw[framesL_app,List.length_append]
 have h1:=framesL_len (moreE T T') 80 (fun p hq=>by
  have hq2:p.length≤65:=by
   unfold moreE at hq
   obtain⟨s,hs,rfl⟩:=List.mem_map.1 hq
   have hpre: ∃m,T'=T++m:=by
    rw[←hT']
    split
    ·exact tnewOn_prefix _ _
    ·exact⟨[],by simp⟩
   obtain⟨m,hm⟩:=hpre
   have hnd:=hf.nd
   have hz:=hf.z
   dsimp only at hnd hz
   rw[hm,List.drop_left]at hs
   have hs64:s.size≤64:=by
    rcases hz s (by rw[hm];exact List.mem_append_right _ hs)with h1|h1
    ·rw[hm]at hnd
     exact absurd rfl ((List.nodup_append.1 hnd).2.2 s h1 s hs)
    ·exact h1
   unfold defE
   rw[List.length_cons,bytesOf_length]
   omega
  have:=frameL_len2 p 65 hq2 (by omega)
  omega)
 have h2:=hp _ (List.mem_append_right _ (List.mem_singleton.2 rfl))
 have h3:=frameL_len2 _ 2048 h2.2 (by omega)
 have e1: ∀x,framesL [x]=frameL x:=fun x=>by simp[framesL]
 rw[e1]
 omega
theorem framesL_pre (rows:List (List Int)) (i:Nat):(framesL (rows.take i)).length≤(framesL rows).length:=by
 have e:rows=rows.take i++rows.drop i:=(List.take_append_drop i rows).symm
 conv=>rhs;rw[e,framesL_app,List.length_append]
 omega
structure CSt (W X:World) (S:Nat→Prop) (g:Nat) (T:List ByteArray) (vb:Value) (b:List Int):Prop where
 tab:Tab X S g T
 sg: ∀k,S k→W.heap.size≤k
 bl:Below W.heap.size W X
 by_:Kd.R (Kd.int .u8) 5 X W.heap.size (fun k=>¬S k) vb b
theorem CSt.below {W X X':World} {S:Nat→Prop} {g:Nat} {T:List ByteArray} {vb:Value} {b:List Int} (h:CSt W X S g T vb b) (hb:Below X.heap.size X X'):CSt W X' S g T vb b:=
 ⟨h.tab.keep (Kp.of_below hb (fun _=>False)) (fun _ _ h=>h),h.sg,h.bl.trans (hb.mono h.bl.size),Kd.R_below h.by_ hb⟩
theorem CSt.wrote {W X X':World} {S S':Nat→Prop} {g:Nat} {T T':List ByteArray} {vb:Value} {b:List Int} (h:CSt W X S g T vb b) (ht:Tab X' S' g T') (hs: ∀k,S' k→S k∨X.heap.size≤k) (hk:Kp X X' S):CSt W X' S' g T' vb b:=
 ⟨ht,fun k h1=>(hs k h1).elim (h.sg k) (fun h3=>Nat.le_trans h.bl.size h3),((Kp.of_below h.bl S).trans hk (fun k h1=> .inl h1)).to_below h.sg,R_wrote h.by_ hk hs⟩
theorem CSt.bytes {W X X':World} {S:Nat→Prop} {g:Nat} {T:List ByteArray} {vb vb':Value} {b b':List Int} (h:CSt W X S g T vb b) (hb:Below X.heap.size X X') (hR:Kd.R (Kd.int .u8) 5 X' X.heap.size (fun _=>True) vb' b'):CSt W X' S g T vb' b':=
 ⟨h.tab.keep (Kp.of_below hb (fun _=>False)) (fun _ _ h=>h),h.sg,h.bl.trans (hb.mono h.bl.size),Kd.R_mono (Kd.R_lower (Kd.R_bound hR) h.bl.size) (fun k hk hs=>by have:=h.tab.lt k hs;have:=hk.2.1;omega)⟩
def CodPost (W:World) (F:List Int×Int) (e:Ending) (W':World):Prop:=
 ∃vb,e= .returned (.tuple #[vb,.int .i64 F.2])∧Kd.R (Kd.int .u8) 5 W' W.heap.size (fun _=>True) vb F.1∧Below W.heap.size W W'
theorem codput_any (v:Int) (A:Option Addr) (c:Nat) (l:List Rec9) (W:World) (hC:Kd.C kdRec W A l.length l) (hc:l.length≤c) (hl:l.length≤30∨(l.length≤600∧(codF v l).2=0∧(codF v l).1.length≤100000)) (hnum: ∀r∈l,NumR r) (hok: ∀r∈l,RecOk r.2.1 r.2.2.2.1 r.2.2.2.2.2.2):
  Calls Tryz.prog 8 #[.int .i64 v,.slice A l.length c] W (CodPost W (codF v l)):=by
 have HC:=hQ hC
 have HNUM:=hQ hnum
 have HOK:=hQ hok
 clear hC hnum hok
 unfold codF at hl ⊢
 by_cases hv:1≤v∧v≤3
 ·rw [if_pos hv]at hl ⊢
  have HH:=hQ (head_ok v hv W)
  obtain⟨hb0,hhb⟩:=eX (headL v)
  have hhl:hb0.length≤8:=by rw[←hhb];simp[headL,crcB]
  rw[hhb]at HH hl ⊢
  obtain⟨FF,hFF⟩:=eX (codL v l hb0 [])
  rw[hFF]at hl ⊢
  have HFF:=hQ hFF
  have HLB:=hQ hl
  have hl6:l.length≤600:=by omega
  clear hl
  have HN:=hQ (fun W=>new_any none 0 [] W (Kd.C_nil _ _) (Nat.le_refl _) (by simp) (by simp))
  rw[show([]:List ByteArray).length=0 from rfl,show tnew ([]:List ByteArray)=[] from rfl]at HN
  clear hhb hFF hv
  go_enter Tryz.func8,Tryz.ntmps8
  go_wp2_with fail
  refine HH.out.mono ?_
  rintro e w1 ⟨A1,c1,rfl,hR1,hb1⟩
  have HR1:=hQ hR1
  have HB1:=hQ hb1
  clear hR1 hb1 HH
  go_wp2_with fail
  refine(HN.out w1).mono ?_
  rintro e w2 ⟨rfl,S,hT,hS,hB⟩
  obtain⟨g,hg⟩:=eX (w1.heap.size)
  have hst:CSt W w2 S g [] (.slice A1 hb0.length c1) hb0:=
   ⟨hg ▸ hT,fun k hk=>Nat.le_trans HB1.out.size (hS k hk),HB1.out.trans (hB.mono HB1.out.size),Kd.R_mono (Kd.R_below (Kd.R_bound HR1.out) hB) (fun k hk hs=>by have:=hS k hs;have:=hk.2.2.1;omega)⟩
  rw[hg]
  have HST:=hQ hst
  clear hT hS hB hg hst HR1 HB1 HN
  go_wp2_with fail
  go_loopw [6,26] (fun u6 u26 wr=>∃(i:Nat) (S:Nat→Prop) (T:List ByteArray) (b:List Int),i≤l.length∧u26= .int .i64 (i:Int)∧Hid (CSt W wr S g T u6 b)∧Hid (codL v (l.drop i) b T=FF∧T.Nodup∧T.length≤18*i∧b.length≤8+4000*i)) (fun _ u _=>l.length-(intOf u).toNat)
  case atStart=>exact⟨0,S,[],hb0,by omega,rfl,HST,hQ ⟨by rw[List.drop_zero];exact HFF.out,List.nodup_nil,by simp,by omega⟩⟩
  case round=>
   clear HST
   obtain⟨i,S,T,b,hi,rfl,H,HG⟩:=hrel
   by_cases hlt:i<l.length
   ·have hdl:decide ((i:Int)<(l.length:Int))=true:=decide_eq_true (by omega)
    obtain⟨r,hr⟩:=eX (l[i])
    obtain⟨ad,A3,c3,hA,h0,h1,h2,h3,h4,h5,h6,hle,hrow⟩:=at_row9 (w:=W) (W:=W) rfl (fun _ _ h=>h) HC.out i hlt r hr
    subst hA
    have hmem:r∈l:=hr ▸ List.getElem_mem _
    have hnumr:=HNUM.out r hmem
    have hokr:=HOK.out r hmem
    have hdrop:l.drop i=r::l.drop (i+1):=by rw[List.drop_eq_getElem_cons hlt,hr]
    have hcl:=HG.out.1
    rw[hdrop,codL]at hcl
    obtain⟨k0,x1,x2,ds,x4,x5,x6⟩:=r
    dsimp only at h0 h1 h2 h3 h4 h5 h6 hle hrow hokr
    have hbl:=H.out.bl
    replace h0:=pw_cell_below hbl h0
    replace h1:=pw_cell_below hbl h1
    replace h2:=pw_cell_below hbl h2
    replace h3:=pw_cell_below hbl h3
    replace h4:=pw_cell_below hbl h4
    replace h5:=pw_cell_below hbl h5
    replace h6:=pw_cell_below hbl h6
    have hba:Below wr.heap.size wr (wr.alloc (.cells #[.int .i64 k0,.string x1,.int .u64 x2,.slice A3 ds.length c3,.int .u64 x4,.int .u64 x5,.string x6] 49)):=(Below.refl _ _).alloc (Nat.le_refl _) _
    have hAA:=H.out.below hba
    have hT5:T.length≤10800:=by have:=HG.out.2.2.1;omega
    have hPT:=sput_any v hAA.tab k0 x1 x2 A3 c3 ds x4 x5 x6 (fun W' hk=>Kd.C_below hrow (below_kp hAA.bl hk hAA.sg)) hle hokr hnumr.r2 hnumr.o hnumr.w hnumr.d (by omega)
    have hgood:(putR v T (k0,x1,x2,ds,x4,x5,x6)).2.2=0→GoodR v (k0,x1,x2,ds,x4,x5,x6):=fun h=>⟨putF_yes h,hnumr⟩
    have hfit:(putR v T (k0,x1,x2,ds,x4,x5,x6)).2.2=0→PutFit v T (putR v T (k0,x1,x2,ds,x4,x5,x6)):=fun h=>put_fit (by omega) HG.out.2.1 (hgood h)
    have hpl:(putR v T (k0,x1,x2,ds,x4,x5,x6)).2.2=0→_:=fun h=>put_len (by omega) HG.out.2.1 (hgood h)
    have hfl:(putR v T (k0,x1,x2,ds,x4,x5,x6)).2.2=0→_:=fun h=>put_frames_len (by omega) HG.out.2.1 (hgood h)
    unfold putR at hcl hgood hfit hpl hfl
    dsimp only at hcl hgood hfit hpl hfl
    generalize putF v T k0 x1 x2 ds x4 x5 x6=F at hPT hcl hfit hpl hfl
    obtain⟨F1,T',er⟩:=F
    dsimp only at hcl hfit hpl hfl
    have HPT:=hQ hPT
    have HCL:=hQ hcl
    have HFIT:=hQ hfit
    have HPL:=hQ hpl
    have HFL:=hQ hfl
    have HAA:=hQ hAA
    clear hr hmem hnumr hokr hdrop hcl hbl hba hAA hPT hgood hfit hpl hfl H hrow
    go_wp2_with fail
    clear h0 h1 h2 h3 h4 h5 h6
    refine HPT.out.mono ?_
    rintro e wb ⟨vp,S',rfl,hT',hs',hk',hRp⟩
    dsimp only at hT' hRp ⊢
    have HB:=hQ (HAA.out.wrote hT' hs' hk')
    obtain⟨Ap,cp,rfl⟩:=Kd.R_slice hRp
    have HRP:=hQ hRp
    clear hT' hs' hk' hRp HPT HAA
    by_cases he:er=0
    ·subst he
     have hcl:=HCL.out
     rw[if_pos (by trivial)]at hcl
     have HCL2:=hQ hcl
     clear hcl HCL
     have hn1:=(HFIT.out (by trivial)).n1
     have hpl:=HPL.out (by trivial)
     have hfl:=HFL.out (by trivial)
     dsimp only at hn1
     have HPL2:=hQ hpl
     clear hpl
     go_wp2_with fail
     go_loopw [6,42] (fun u6 u42 wr=>∃(j:Nat),j≤F1.length∧u42= .int .i64 (j:Int)∧Hid (CSt W wr S' g T' u6 (b++framesL (F1.take j)))∧Hid (Below wb.heap.size wb wr)) (fun _ u _=>F1.length-(intOf u).toNat)
     case atStart=>exact⟨0,by omega,rfl,hQ (by rw[List.take_zero,show framesL []=[] from rfl,List.append_nil];exact HB.out),hQ (Below.refl _ _)⟩
     case round=>
      clear HB
      obtain⟨j,hj,rfl,HJ,HBJ⟩:=hrel
      by_cases hlj:j<F1.length
      ·have hdj:decide ((j:Int)<(F1.length:Int))=true:=decide_eq_true (by omega)
       obtain⟨ad1,B1,d1,hA1,hc1,hl1,hr1⟩:=at_L5 (Kd.C_below (Kd.R_reads' HRP.out).2.2 HBJ.out) (j:Int) (by omega) (by omega)
       subst hA1
       have e1:rd_L5 F1 (j:Int)=F1[j]:=by simp[rd_L5,hlj]
       rw[e1,Int.toNat_natCast]at hc1
       rw[e1]at hl1 hr1
       have hp:=HPL2.out F1[j] (List.getElem_mem _)
       have htk:=framesL_take F1 j hlj
       have hfp:=framesL_pre F1 j
       generalize F1[j]=p at*
       obtain⟨A6,c6,rfl⟩:=Kd.R_slice HJ.out.by_
       have hr6:=Kd.R_reads' HJ.out.by_
       have hbl6:(b++framesL (F1.take j)).length≤1000000:=by
        rw[List.length_append]
        rcases HLB.out with hl|⟨hl,hF0,hF1⟩
        ·have:=HG.out.2.2.2;omega
        ·have h8:=codL_len v _ _ _ (HCL2.out ▸ hF0)
         rw[HCL2.out,List.length_append]at h8
         omega
       obtain⟨m,hm⟩:=eX (b++framesL (F1.take j))
       rw[hm]at HJ hr6 hbl6 ⊢
       have hfr:=frameL_len p hp.2
       have hfp2:=fput_ok A6 c6 m B1 d1 p wr hr6.2.2 hr6.2.1 hbl6 hr1 hl1 hp hfr.2.1 hfr.2.2
       obtain⟨m2,hm2⟩:=eX (m++frameL p)
       rw[hm2]at hfp2
       have HFP:=hQ hfp2
       have HM2:=hQ hm2
       have HTK:=hQ htk
       have HM:=hQ hm
       clear hl1 hr1 hp htk hfp hr6 hm hfr e1 hm2 hfp2
       go_wp2_with fail
       refine HFP.out.mono ?_
       rintro e wc ⟨A7,c7,rfl,hR7,hb7⟩
       have HC7:=hQ (HJ.out.bytes hb7 hR7)
       have HB7:=hQ (HBJ.out.trans (hb7.mono HBJ.out.size))
       clear hR7 hb7 hc1
       go_wp2_with fail
       go_roundw
       case rel=>exact⟨j+1,by omega,by go_num,hQ (by rw[HTK.out,←List.append_assoc,HM.out,HM2.out];exact HC7.out),HB7⟩
       case measure=>simp[intOf];omega
      ·obtain rfl:j=F1.length:=by omega
       rw[List.take_length]at HJ
       have hfit2:=HFIT.out (by trivial)
       have htl:=hfit2.t
       have hnd:=hfit2.nd
       dsimp only at htl hnd
       have HGN:Hid (codL v (l.drop (i+1)) (b++framesL F1) T'=FF∧T'.Nodup∧T'.length≤18*(i+1)∧(b++framesL F1).length≤8+4000*(i+1)):=hQ ⟨HCL2.out,hnd,by have:=HG.out.2.2.1;omega,by rw[List.length_append];have:=HG.out.2.2.2;omega⟩
       clear hfit2 htl hnd
       go_wp2_with fail
       go_roundw
       case rel=>exact⟨i+1,S',T',b++framesL F1,by omega,by go_num,HJ,HGN⟩
       case measure=>simp[intOf];omega
    ·have hne:(er !=0)=true:=by simp[he]
     have hed:decide (er=0)=false:=decide_eq_false he
     have hcl:=HCL.out
     rw[if_neg he]at hcl
     have HCL2:=hQ hcl
     clear hcl HCL
     go_wp2_with fail
     go_ret2
     rw[←HCL2.out]
     exact⟨_,rfl,Kd.R_nil _ _ _ _ _,HB.out.bl⟩
   ·obtain rfl:i=l.length:=by omega
    have hcl:=HG.out.1
    rw[List.drop_length,codL]at hcl
    have HCL:=hQ hcl
    clear hcl
    obtain⟨A6,c6,rfl⟩:=Kd.R_slice H.out.by_
    go_wp2_with fail
    go_ret2
    rw[←HCL.out]
    exact⟨_,rfl,Kd.R_mono H.out.by_ (fun _ _=>trivial),H.out.bl⟩
 ·rw[if_neg hv]
  clear hl
  have HH:=hQ (head_bad v hv W)
  go_enter Tryz.func8,Tryz.ntmps8
  go_wp2_with fail
  refine HH.out.mono ?_
  rintro e w1 ⟨rfl,hb⟩
  go_wp2_with fail
  go_ret2
  exact⟨_,rfl,Kd.R_nil _ _ _ _ _,hb⟩
end Go.Proofs.YtfflenbfapgilaaGreat
