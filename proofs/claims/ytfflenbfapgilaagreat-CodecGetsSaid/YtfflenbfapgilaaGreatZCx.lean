/- Texts laid as one by shake.py, cut to what the claim needs: Cat. (Names that begin with W and the print's groups (G..x, G..z): laid by the kit's print, cut.) -/
import Derived.Test.YtfflenbfapgilaaGreatZCd
import Derived.Lib.AppendZeros
import Derived.Laws.AppendOwn
set_option linter.unusedVariables false
set_option linter.unusedSimpArgs false
set_option maxHeartbeats 8000000
set_option maxRecDepth 100000
namespace Go.Proofs.YtfflenbfapgilaaGreat
open Go.RowKit Go.Proofs.YtfflenbfapgilaaGreatW.PrintWords
theorem R_room (k:IntKind) (W:World) (base b cap:Nat) (e:TypeId) (ok:Nat→Prop) (cur:Array Value) (h:W.heap[b]? =some (.cells cur e (0,0))) (hs:cur.size=cap) (hm:cap≤maxLen) (hb:base≤b) (hok:ok b):Kd.R (Kd.int k) e W base ok (.slice (some ⟨b,0,none⟩) 0 cap) []:=
 ⟨fun k hk=>by simp only[Value.ownBlock,Option.some.injEq]at hk;exact hk ▸ hok,[],⟨by simp,.inr ⟨b,cap,cur,rfl,hb,h,Nat.zero_le _,hm,by simp[hs,Kd.int,Kd.scalar],by simp⟩⟩,Reps.none _ _⟩
theorem info_u8m:(Tryz.prog.info? 5).map (fun i=>(i.zero,i.size,i.bytes))=some (some (.int .u8 0),1,1):=by kernel_rfl
theorem info_u8c: ∃i,Tryz.prog.info? 5=some i∧i.zero=some (.int .u8 0)∧i.size=1∧i.bytes=1:=by
 obtain⟨i,h1,h2⟩:=Option.map_eq_some_iff.1 info_u8m
 simp only[Prod.mk.injEq]at h2
 exact⟨i,h1,h2.1,h2.2.1,h2.2.2⟩
theorem grow_any (n:Nat) (hn:n≤1000000000) (w:World):Calls Tryz.prog 71 #[.slice none 0 0,.int .i64 n] w fun e w'=>∃v:Value,e= .returned v∧Kd.R (Kd.int .u8) 5 w' w.heap.size (fun _=>True) v []∧Below w.heap.size w w':=by
 have d0:decide ((n:Int)<0)=false:=decide_eq_false (by omega)
 by_cases h0:0<n
 ·have d1:decide (0<n)=true:=decide_eq_true h0
  have d2:decide (0<(n:Int))=true:=decide_eq_true (by omega)
  obtain⟨i,hi,hz,hs,hb⟩:=info_u8c
  have h:=Lib.run_append_nil_zeros (P:=Tryz.prog) w 22 3 22 5 i (.int .u8 0) .i64 .i64 Tryz.underlying22 Tryz.underlying3 hi hz n h0 (by rw[hs];decide) (by omega) (by rw[hb];omega)
  go_enter Tryz.func71,Tryz.ntmps71
  go_wp2_with (at_builtin;refine Lib.wpList_append_run _ rfl _ _ _ _ rfl _ _ rfl rfl _ _ h ?_)
  go_ret
  have hge:=grownCap_ge w n 0 5
  refine⟨_,rfl,R_room .u8 _ _ w.heap.size (grownCap w n 0 5) 5 _ _ (heap_new w _) ?_ (grownCap_le_maxLen w n 0 5 (by simp only[maxLen];omega)) (Nat.le_refl _) trivial,((Below.refl _ _).alloc (Nat.le_refl _) _).drew⟩
  rw[Array.size_append,size_zeroCells,size_zeroCells]
  simp;omega
 ·obtain rfl:n=0:=by omega
  go_enter Tryz.func71,Tryz.ntmps71
  go_wp2_with fail
  go_ret
  exact⟨_,rfl,Kd.R_nil _ _ _ _ _,Below.refl _ _⟩
theorem rows_at {w:World} {A:Option Addr} {n:Nat} {ls:List (List Int)} (h:Kd.C (Kd.slice 5 (Kd.int .u8)) w A n ls) (i:Nat) (hi:i<ls.length):
  ∃(ad:Addr) (A0:Option Addr) (c0:Nat),A=some ad∧w.cell? (ad.add i)=some (.slice A0 ls[i].length c0)∧ls[i].length≤c0∧Kd.C (Kd.int .u8) w A0 ls[i].length ls[i]:=by
 obtain⟨ad,he,hc⟩:=h.2.2 (by have:=h.1;omega)
 obtain⟨cs,_,⟨A0,c0,hcs,hle,hC⟩,hcell⟩:=hc i ls[i] (List.getElem?_eq_getElem hi)
 have:=hcell 0 _ (by rw[hcs];rfl)
 rw[show(Kd.slice 5 (Kd.int .u8)).sz=1 from rfl,Nat.mul_one,Nat.add_zero]at this
 exact⟨ad,A0,c0,he,this,hle,hC⟩
theorem concat_any (A:Option Addr) (c:Nat) (ls:List (List Int)) (w:World) (hC:Kd.C (Kd.slice 5 (Kd.int .u8)) w A ls.length ls) (hc:ls.length≤c) (hl:ls.flatten.length≤1000000000):
  Calls Tryz.prog 39 #[.slice A ls.length c] w fun e w'=>∃v:Value,e= .returned v∧Kd.R (Kd.int .u8) 5 w' w.heap.size (fun _=>True) v ls.flatten∧Below w.heap.size w w':=by
 have HC:=hQ hC
 have hlm:ls.length≤9223372036854775807:=hC.2.1
 have HL:=hQ hl
 clear hC hl
 have htake: ∀i,(ls.take i).flatten.length≤ls.flatten.length:=fun i=>by
  conv=>rhs;rw[←List.take_append_drop i ls,List.flatten_append,List.length_append]
  omega
 have HTK:=hQ htake
 clear htake
 go_enter Tryz.func39,Tryz.ntmps39
 go_wp2_with fail
 go_loopw [11,3] (fun u11 u3 wq=>∃(i:Nat),i≤ls.length∧u11= .int .i64 i∧u3= .int .i64 (ls.take i).flatten.length∧w=wq) (fun u _ _=>ls.length-(intOf u).toNat)
 case atStart=>exact⟨0,by omega,rfl,by simp,rfl⟩
 case round=>
  obtain⟨i,hi,rfl,rfl,rfl⟩:=hrel
  by_cases hlt:i<ls.length
  ·obtain⟨ad,A1,c1,had,hcell,hl1,hC1⟩:=rows_at HC.out i hlt
   have htk:(ls.take (i+1)).flatten.length=(ls.take i).flatten.length+ls[i].length:=by rw[List.take_succ_eq_append_getElem hlt,List.flatten_append,List.flatten_singleton,List.length_append]
   have h1:=HTK.out (i+1)
   have h2:=HL.out
   have HTL:=hQ htk
   rw[htk]at h1
   clear hC1 htk
   generalize ls[i].length=m at*
   generalize (ls.take i).flatten.length=q at*
   subst had
   have hw:wrap64 ((q:Int)+(m:Int))=((q+m:Nat):Int):=by unfold wrap64;omega
   have hd:decide (((q+m:Nat):Int)<0)=false:=decide_eq_false (by omega)
   go_wp2_with fail
   refine⟨⟨i+1,by omega,by first|rfl|(congr 1)|simp,by first|(rw[HTL.out];rfl)|(rw[HTL.out];simp),by first|rfl|trivial⟩,by simp[intOf];omega⟩
  ·obtain rfl:i=ls.length:=by omega
   rw[List.take_of_length_le (Nat.le_refl _)]
   have hlf:=HL.out
   obtain⟨q,hq⟩:=eX (ls.flatten.length)
   rw[hq]at hlf ⊢
   have HG:=hQ (grow_any q hlf w)
   have HQ:=hQ hq
   clear hq
   go_wp2_with fail
   refine HG.out.mono ?_
   rintro e w1 ⟨v1,rfl,hR,hB⟩
   obtain⟨A6,c6,rfl⟩:=Kd.R_slice hR
   have H0:=hQ (And.intro hR hB)
   clear hR hB HG hlt
   go_wp2_with fail
   go_loopw [27,6] (fun u27 u6 wq=>∃(i:Nat),i≤ls.length∧u27= .int .i64 i∧Hid (Kd.R (Kd.int .u8) 5 wq w.heap.size (fun _=>True) u6 (ls.take i).flatten∧Below w.heap.size w wq)) (fun u _ _=>ls.length-(intOf u).toNat)
   case atStart=>exact⟨0,by omega,rfl,H0⟩
   case round=>
    clear H0
    obtain⟨i,hi,rfl,hp⟩:=hrel
    obtain⟨hR,hB⟩:=hp.out
    obtain⟨A9,c9,rfl⟩:=Kd.R_slice hR
    by_cases hlt:i<ls.length
    ·obtain⟨ad,A1,c1,had,hcell,hl1,hC1⟩:=rows_at (Kd.C_below HC.out hB) i hlt
     have htk:(ls.take (i+1)).flatten=(ls.take i).flatten++ls[i]:=by rw[List.take_succ_eq_append_getElem hlt,List.flatten_append,List.flatten_singleton]
     have h1:=HTK.out (i+1)
     have hlm2:=HL.out
     rw[htk,List.length_append]at h1
     have HTL:=hQ htk
     have HC1:=hQ hC1
     have HR:=hQ hR
     have HB:=hQ hB
     clear hC1 htk hR hB hp
     generalize ls[i]=l at*
     generalize (ls.take i).flatten=xs at*
     have H1:=hQ h1
     clear h1
     subst had
     go_wp2_with (at_builtin;refine Halt.mk ?_)
     refine Halt.of ?_
     refine Kd.R_append_rows (Kd.int .u8) (w0:=w) w.heap.size rfl (.tmp 31) (.tmp 32) 22 5 (.int .u8 0) 1 rfl Tryz.underlying22 info_u8m rfl (by decide) (by omega) _ xs l _ _ _ (fun _=>True) (fun _=>False) rfl rfl HR.out HC1.out (fun _ _ h=>h) (fun _ h=>h.elim) (fun _ _=>trivial) HB.out HB.out.size (by have:=H1.out;omega) ?_
     intro v2 w2 hR2 hB2 _ _
     have HP2:=hQ (And.intro hR2 hB2)
     clear hR2 hB2
     go_wp2
     go_roundw
     case rel=>exact⟨i+1,by omega,by go_num,by rw[HTL.out];exact HP2⟩
     case measure=>simp[intOf];omega
    ·obtain rfl:i=ls.length:=by omega
     rw[List.take_of_length_le (Nat.le_refl _)]at hR ⊢
     have HR:=hQ hR
     have HB:=hQ hB
     clear hR hB hp
     go_wp2_with fail
     go_ret
     exact⟨_,rfl,HR.out,HB.out⟩
end Go.Proofs.YtfflenbfapgilaaGreat
