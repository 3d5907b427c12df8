/- Texts laid as one by shake.py, cut to what the claim needs: Var, VarG. (Names that begin with W and the print's groups (G..x, G..z): laid by the kit's print, cut.) -/
import Derived.Test.YtfflenbfapgilaaGreatZCh
import Derived.Test.YtfflenbfapgilaaGreatZCe
set_option linter.unusedVariables false
set_option linter.unusedSimpArgs false
set_option maxHeartbeats 8000000
set_option maxRecDepth 100000
namespace Go.Proofs.YtfflenbfapgilaaGreat
open Go.RowKit Go.Proofs.YtfflenbfapgilaaGreatW.PrintWords
attribute [local go_sem] Oper.semAt_some
theorem groups_any (m:Int) (w:World):
  Calls Tryz.prog 98 #[.int .u64 m] w fun e w'=>e= .returned (.func (.func 101) #[] #[.pointer (some ⟨w.heap.size,0,none⟩)])∧w.alloc (.cells #[.int .u64 m] 46)=w':=by
 go_enter Tryz.func98,Tryz.ntmps98
 go_wp2
 go_ret
 exact⟨rfl,rfl⟩
structure Laying (w:World) (B Bn:Nat) (l:List Int) (m:Nat) (i j:Nat) (W:World):Prop where
 out: ∃v,W.heap[B]? =some (.cells #[v] 22 (0,0))∧Kd.R (Kd.int .u8) 5 W w.heap.size (fun _=>True) v (l++(ints (vb m)).take i)
 num:W.heap[Bn]? =some (.cells #[.int .u64 ((m/128^j:Nat):Int)] 46 (0,0))
 old:Below w.heap.size w W
theorem Laying.putObj {w:World} {B Bn:Nat} {l:List Int} {m i j:Nat} {W:World} (h:Laying w B Bn l m i j W) {k:Nat} {r:Loop} (o:Obj) (hk:w.heap.size≤k) (hl:W.heap[k]? =some (.loop r)):Laying w B Bn l m i j (W.putObj k o):=by
 obtain⟨v,h1,h2⟩:=h.out
 exact⟨⟨v,heap_putObj o h1 hl,R_putObj o h2 hl⟩,heap_putObj o h.num hl,below_putObj o h.old hk⟩
theorem Laying.alloc {w:World} {B Bn:Nat} {l:List Int} {m i j:Nat} {W:World} (h:Laying w B Bn l m i j W) (o:Obj):Laying w B Bn l m i j (W.alloc o):=by
 obtain⟨v,h1,h2⟩:=h.out
 exact⟨⟨v,(heap_new_old W o B (Array.getElem?_eq_some_iff.1 h1).1).trans h1,Kd.R_alloc h2 o⟩,(heap_new_old W o Bn (Array.getElem?_eq_some_iff.1 h.num).1).trans h.num,h.old.alloc h.old.size o⟩
theorem Laying.setNum {w:World} {B Bn:Nat} {l:List Int} {m i j:Nat} {W:World} (h:Laying w B Bn l m i j W) (hBB:B≠Bn) (hn:w.heap.size≤Bn):Laying w B Bn l m i (j+1) (W.setCell ⟨Bn,0,none⟩ (.int .u64 (((m/128^(j+1):Nat)):Int))):=by
 obtain⟨v,h1,h2⟩:=h.out
 refine⟨⟨v,(Below.heap_setCell _ _ _ _ hBB).trans h1,Kd.R_set h2 h.num (by simp[Kd.int,Kd.scalar]) 0 _⟩, ?_,h.old.setCell hn _⟩
 have:=blk_set h.num 0 (.int .u64 (((m/128^(j+1):Nat)):Int))
 simpa using this
def numAt (W:World) (b:Nat):Nat:=match W.cell? ⟨b,0,none⟩with|some v=>(intOf v).toNat|none=>0
theorem Laying.numAt {w:World} {B Bn:Nat} {l:List Int} {m i j:Nat} {W:World} (h:Laying w B Bn l m i j W):numAt W Bn=m/128^j:=by
 have hc:W.cell? ⟨Bn,0,none⟩=some (.int .u64 ((m/128^j:Nat):Int)):=by simp only[World.cell?,h.num];rfl
 unfold Go.Proofs.YtfflenbfapgilaaGreat.numAt
 rw[hc]
 exact Int.toNat_natCast _
theorem or128 (q:Nat):Go.bits .or .u8 ((q:Int)%256) 128=(q:Int)%128+128:=by
 rw[show((q:Int)%256)=((q%256:Nat):Int)by omega,show(128:Int)=((128:Nat):Int) from rfl,u8_or_nat _ 128 (by omega) (by decide)]
 have h: ∀x,x<256→x ||| 128=x%128+128:=by decide+kernel
 rw[h _ (by omega)]
 omega
theorem ints_get (l:List Nat) (i:Nat):(ints l)[i]? =(l[i]?).map fun(x:Nat)=>(x:Int):=by simp[ints]
theorem vb_at (m i:Nat) (hi:i<(vb m).length) (h: ¬m/128^i<128):(ints (vb m))[i]? =some (((m/128^i)%128+128:Nat):Int)∧i+1<(vb m).length:=by
 have hd:=vb_drop i m hi
 rw[vb_great _ h]at hd
 have h1:(vb m)[i]? =some ((m/128^i)%128+128):=by
  have:=congrArg (·[0]?) hd
  simpa using this
 have h2:=congrArg List.length hd
 have h3:0<(vb (m/128^i/128)).length:=List.length_pos_iff.2 (vb_ne _)
 rw[List.length_drop,List.length_cons]at h2
 exact⟨by rw[ints_get,h1];rfl,by omega⟩
theorem vb_last (m i:Nat) (hi:i<(vb m).length) (h:m/128^i<128):(ints (vb m))[i]? =some ((m/128^i:Nat):Int)∧i+1=(vb m).length:=by
 have hd:=vb_drop i m hi
 rw[vb_small _ h]at hd
 have h1:(vb m)[i]? =some (m/128^i):=by
  have:=congrArg (·[0]?) hd
  simpa using this
 have h2:=congrArg List.length hd
 rw[List.length_drop]at h2
 simp at h2
 exact⟨by rw[ints_get,h1];rfl,by omega⟩
theorem put_any (A:Option Addr) (c:Nat) (l:List Int) (m:Nat) (w:World) (hr:Kd.C (Kd.int .u8) w A l.length l) (hc:l.length≤c) (hl:l.length≤140737488355000) (hm:m<18446744073709551616):
  Calls Tryz.prog 90 #[.slice A l.length c,.int .u64 m] w fun e w'=>∃v:Value,e= .returned v∧Kd.R (Kd.int .u8) 5 w' w.heap.size (fun _=>True) v (l++ints (vb m))∧Below w.heap.size w w':=by
 have HC:=hQ hr
 clear hr
 refine callsIn_wide (n:=9).1 ?_
 refine callsIn_of_wp_marks Tryz.func90 rfl trivial ?_
 simp only[Tryz.ntmps90,List.size_toArray,List.length_cons,List.length_nil,Nat.reduceAdd,Nat.reduceSub,Array.replicate_succ,Array.replicate_zero,List.push_toArray,List.append_toArray,List.nil_append,List.cons_append]
 gi_wp2_with fail
 refine⟨trivial, ?_⟩
 refine(callsIn_wide.2 (clone_any _ _ _ _ HC.out hc (by omega))).mono ?_
 rintro e w1 ⟨v,rfl,ho,hb⟩
 obtain⟨A1,c1,rfl⟩:=Kd.R_slice ho
 have HO:=hQ ho
 clear ho
 gi_wp2_with fail
 refine⟨trivial, ?_⟩
 refine(callsIn_wide.2 (groups_any _ _)).mono ?_
 rintro e w2 ⟨rfl,rfl⟩
 gi_wp2_with fail
 obtain⟨W0,hW0⟩:=eX ((w1.alloc (.cells #[.slice A1 l.length c1] 22)).alloc (.cells #[.int .u64 (m:Int)] 46))
 rw[hW0]
 have hs0:W0.heap.size=w1.heap.size+2:=by rw[←hW0];simp
 have hlay:Laying w w1.heap.size (w1.heap.size+1) l m 0 0 W0:=by
  rw[←hW0]
  refine⟨⟨_,(heap_new_old _ _ _ (by simp)).trans (heap_new _ _), ?_⟩, ?_,((hb.alloc hb.size _).alloc (by simp;have:=hb.size;omega) _)⟩
  ·rw[List.take_zero,List.append_nil];exact Kd.R_alloc (Kd.R_alloc HO.out _) _
  ·have:=heap_new (w1.alloc (.cells #[.slice A1 l.length c1] 22)) (.cells #[.int .u64 (m:Int)] 46)
   rw[heap_size_alloc]at this
   simpa using this
 have hws:w.heap.size≤w1.heap.size:=hb.size
 clear hW0 hb
 have hm10:(ints (vb m)).length≤10:=by simpa [ints]using vb_len10 m hm
 have HM10:=hQ hm10
 clear hm10
 refine range_all (α:=Int) rfl (by simp[Fence.wide]) (gf:=101) (lb:=#[.pointer (some ⟨w1.heap.size+1,0,none⟩)]) rfl trivial (fun args w=>Go.Proofs.YtfflenbfapgilaaGreatW.PrintLast.enters_ Tryz.func101 (by kernel_rfl) rfl args w)
  (fun x=>#[.int .u8 x]) (ints (vb m)) (fun _=>rfl) (fun i=>Laying w w1.heap.size (w1.heap.size+1) l m i (i-1)) (fun i=>Laying w w1.heap.size (w1.heap.size+1) l m i i)
  (fun r=>(hlay.alloc _).alloc _) (fun i W k r o hk hr hj=>hj.putObj o (by omega) hr) (fun i W k r o hk hr hj=>hj.putObj o (by omega) hr)
  (fun x=>{ tmps:=#[.slice A l.length c,.int .u64 (m:Int),undef,undef,.slice none 0 0,.pointer (some ⟨w1.heap.size,0,none⟩),.int .u8 x,.slice A l.length c,.slice A1 l.length c1,.int .u64 (m:Int),.func (.func 101) #[] #[.pointer (some ⟨w1.heap.size+1,0,none⟩)],.int .u8 x,undef,undef,undef,undef,undef],defers:=[] }) ?assign ?body ?iter ?done
 case assign=>
  intro k x W K hK
  gi_wp2
  exact hK
 case body=>
  intro k D i x W hD hk hkD hkW hk2 hD2 hx hlay
  obtain⟨v,h1,h2⟩:=hlay.out
  obtain⟨A2,c2,rfl⟩:=Kd.R_slice h2
  obtain⟨ys,HYS⟩: ∃ys,Hid (l++(ints (vb m)).take i=ys):=⟨_,rfl⟩
  rw[HYS.out]at h2 h1
  have hcell:W.cell? ⟨w1.heap.size,0,none⟩=some (.slice A2 ys.length c2):=by simp[World.cell?,h1]
  have hyl:ys.length≤l.length+10:=by
   have:=HM10.out
   rw[←HYS.out,List.length_append,List.length_take];omega
  have hbw:w1.heap.size<W.heap.size:=(Array.getElem?_eq_some_iff.1 h1).1
  have HO2:=hQ h2
  have HB1:=hQ h1
  have hold:=hlay.old
  have HNUM:=hQ hlay.num
  clear h1 h2 hlay
  gi_wp2_with (gi_at_builtin;refine Halt.mk ?_)
  refine Halt.of ?_
  refine R_append_in (Kd.int .u8) (w0:=w) w.heap.size rfl (.tmp 12) (.tmp 14) 22 5 (.int .u8 0) 1 rfl Tryz.underlying22 info_u8 rfl (by decide) (by decide) _ ys x [.int .u8 x] _ (fun _=>False) rfl rfl rfl (fun _ h=>h.elim) (fun _ _=>trivial) HO2.out hold hold.size (by omega) ?_
  intro v1 w3 ho3 hb3 hg hat
  obtain⟨A3,c3,rfl⟩:=Kd.R_slice ho3
  have k1:w3.heap[w1.heap.size]? =W.heap[w1.heap.size]? :=grown_keep HO2.out hg (by intro cells;rw[HB1.out];intro h;cases h) hbw
  have k2:w3.heap[w1.heap.size+1]? =W.heap[w1.heap.size+1]? :=grown_keep HO2.out hg (by intro cells;rw[HNUM.out];intro h;cases h) (Array.getElem?_eq_some_iff.1 HNUM.out).1
  have k3:w3.heap[k]? =W.heap[k]? :=by obtain⟨r,hr⟩:=hk2;exact grown_keep HO2.out hg (by intro cells;rw[hr];intro h;cases h) hkW
  have k4:w3.heap[D]? =W.heap[D]? :=grown_keep HO2.out hg (by intro cells;rw[hD2];intro h;cases h) (Array.getElem?_eq_some_iff.1 hD2).1
  have K:=hQ (And.intro k1 (And.intro k2 (And.intro k3 k4)))
  have hc3:w3.cell? ⟨w1.heap.size,0,none⟩=some (.slice A2 ys.length c2):=by simp[World.cell?,k1,HB1.out]
  have hf3:w3.frozen? ⟨w1.heap.size,0,none⟩=false:=by simp[World.frozen?,k1,HB1.out]
  have HO3:=hQ ho3
  clear k1 k2 k3 k4 hg hat ho3
  gi_wp2
  have hB3:w3.heap[w1.heap.size]? =some (.cells #[.slice A2 ys.length c2] 22 (0,0)):=K.out.1.trans HB1.out
  have hnew:l++(ints (vb m)).take (i+1)=ys++[x]:=by
   have hlt:=(List.getElem?_eq_some_iff.1 hx)
   obtain⟨hlt,hxe⟩:=hlt
   rw[List.take_succ_eq_append_getElem hlt,←List.append_assoc,HYS.out,hxe]
  rw[show ys.length+1=(ys++[x]).length by simp]
  refine⟨⟨⟨_,blk_set hB3 0 _, ?_⟩, ?_,hb3.setCell hws _⟩, ?_, ?_⟩
  ·rw[hnew]
   exact Kd.R_set HO3.out hB3 (by simp[Kd.int,Kd.scalar]) 0 _
  ·exact(Below.heap_setCell _ _ _ _ (by simp)).trans (K.out.2.1.trans HNUM.out)
  ·exact(Below.heap_setCell _ _ _ _ (by simp;omega)).trans K.out.2.2.1
  ·exact(Below.heap_setCell _ _ _ _ (by simp;omega)).trans K.out.2.2.2
 case iter=>
  intro k D r W hD hk hkD hlay0 hrdy hround
  refine callsIn_of_wp Tryz.func101 rfl trivial ?_
  simp only[Tryz.ntmps101,List.size_toArray,List.length_cons,List.length_nil,Nat.reduceAdd,Nat.reduceSub,Array.replicate_succ,Array.replicate_zero,List.push_toArray,List.append_toArray,List.nil_append,List.cons_append]
  have HR:=hQ hround
  clear hround
  gi_wp2_with fail
  gi_loopw [3] (fun _ wr=>∃i,i<(vb m).length∧Laying w w1.heap.size (w1.heap.size+1) l m i i wr∧Ready k D r wr) (fun _ wr=>numAt wr (w1.heap.size+1))
  case atStart=>exact⟨0,List.length_pos_iff.2 (vb_ne m),hlay0,hrdy⟩
  case round=>
   obtain⟨i,hi,hlay,hrd⟩:=hrel
   obtain⟨q,HQ⟩: ∃q:Nat,Hid (m/128^i=q):=⟨_,rfl⟩
   have hcell:wr.cell? ⟨w1.heap.size+1,0,none⟩=some (.int .u64 (q:Int)):=by rw[←HQ.out];simp[World.cell?,hlay.num]
   by_cases hq:128≤q
   ·have hx:=vb_at m i hi (by rw[HQ.out];omega)
    rw[HQ.out]at hx
    have hx1:(ints (vb m))[i]? =some ((q:Int)%128+128):=by rw[hx.1];congr 1
    obtain⟨fn',tm,as',bd,hy,hR⟩:=HR.out i _ wr hx1 hlay hrd
    have e1:=or128 q
    have HI:=hQ hx.2
    have HL:=hQ hlay
    clear hx hx1 hlay
    gi_wp2
    refine hR.mono ?_
    rintro e W' ⟨rfl,hlay',hrd'⟩
    rw[Nat.add_sub_cancel]at hlay'
    have hcell':W'.cell? ⟨w1.heap.size+1,0,none⟩=some (.int .u64 (q:Int)):=by rw[←HQ.out];simp[World.cell?,hlay'.num]
    have hfz':W'.frozen? ⟨w1.heap.size+1,0,none⟩=false:=by simp[World.frozen?,hlay'.num]
    clear hy hR hcell e1
    gi_wp2
    have hq2:(q:Int)/128=((m/128^(i+1):Nat):Int):=by
     rw[Nat.pow_succ,←Nat.div_div_eq_div_mul,HQ.out];omega
    rw[hq2]
    have hnext:=hlay'.setNum (by omega) (by omega)
    go_roundw
    case rel=>exact⟨i+1,HI.out,hnext,(Below.heap_setCell _ _ _ _ (by simp;omega)).trans hrd'.1,(Below.heap_setCell _ _ _ _ (by simp;omega)).trans hrd'.2⟩
    case measure=>
     rw[hnext.numAt,HL.out.numAt,Nat.pow_succ,←Nat.div_div_eq_div_mul,HQ.out]
     omega
   ·have hx:=vb_last m i hi (by rw[HQ.out];omega)
    rw[HQ.out]at hx
    obtain⟨fn',tm,as',bd,hy,hR⟩:=HR.out i _ wr hx.1 hlay hrd
    have hq256:(q:Int)%256=q:=by omega
    have HI:=hQ hx.2
    clear hx hlay
    gi_wp2
    refine hR.mono ?_
    rintro e W' ⟨rfl,hlay',hrd'⟩
    gi_wp2
    first|go_end0|go_ret
    refine⟨⟨_,rfl⟩, ?_,hrd'⟩
    rw[show(ints (vb m)).length=i+1 by simp[ints,HI.out]]
    exact hlay'
 case done=>
  intro D W hD hlay hD2
  obtain⟨v,h1,h2⟩:=hlay.out
  have hcell:W.cell? ⟨w1.heap.size,0,none⟩=some v:=by simp[World.cell?,h1]
  have HT:=hQ h1
  clear h1
  gi_wp2
  refine⟨by simp,.inl ⟨_,_,rfl,run_takeDeferred hD2, ?_⟩⟩
  refine⟨_,results_tmp rfl _ _ _,v,rfl, ?_,below_putObj _ hlay.old (by omega)⟩
  rw[List.take_length]at h2
  exact R_putDef _ h2 hD2
end Go.Proofs.YtfflenbfapgilaaGreat
namespace Go.Proofs.YtfflenbfapgilaaGreat
open Go.RowKit Go.Proofs.YtfflenbfapgilaaGreatW.PrintWords
end Go.Proofs.YtfflenbfapgilaaGreat
