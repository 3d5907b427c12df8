/- Texts laid as one by shake.py, cut to what the claim needs: FrA. (Names that begin with W and the print's groups (G..x, G..z): laid by the kit's print, cut.) -/
import Derived.Test.YtfflenbfapgilaaGreatZCx
import Derived.Test.YtfflenbfapgilaaGreatZCd
import Derived.Test.YtfflenbfapgilaaGreatZCg
import Derived.Lib.SlBytesConst
set_option linter.unusedVariables false
set_option linter.unusedSimpArgs false
set_option maxHeartbeats 8000000
set_option maxRecDepth 100000
namespace Go.Proofs.YtfflenbfapgilaaGreat
open Go.RowKit Go.Proofs.YtfflenbfapgilaaGreatW.PrintWords Go.Proofs.YtfflenbfapgilaaGreat.GVB
theorem sum_one (A:Option Addr) (c:Nat) (l:List Int) (w:World) (ad:Addr) (hcell:w.cell? ad=some (.slice A l.length c)) (hl:l.length≤c) (hC:Kd.C (Kd.int .u8) w A l.length l) (hb: ∀x∈l,0≤x∧x<256):
  Calls Tryz.prog 42 #[.slice (some ad) 1 1] w fun e w'=>e= .returned (.int .u32 (Crc.sum (nats l):Nat))∧Below w.heap.size w w':=by
 have hC1:Kd.C (Kd.slice 5 (Kd.int .u8)) w (some ad) ([l]:List (List Int)).length [l]:=by
  refine⟨rfl,by simp,fun _=>⟨ad,rfl,fun j p hj=> ?_⟩⟩
  match j with
  | 0=>
   obtain rfl:l=p:=by simpa using hj
   refine⟨[.slice A l.length c],rfl,⟨A,c,rfl,hl,hC⟩,fun i u hu=> ?_⟩
   match i with
   | 0=>
    have e0:ad.add (0*(Kd.slice 5 (Kd.int .u8)).sz+0)=ad:=by simp[Addr.add]
    rw[e0,hcell];simpa using hu
   |i+1=>simp at hu
  |j+1=>simp at hj
 refine crc_Sum.calls (some ad) 1 [l] _ w hC1 (by simp) ?_
 unfold crc_Sum.f
 rw[if_pos,List.flatten_singleton]
 simp only[List.all_cons,List.all_nil,Bool.and_true]
 exact List.all_eq_true.2 (fun x hx=>by simpa [isByte]using hb x hx)
theorem sum_new (A:Option Addr) (c:Nat) (l:List Int) (W:World) (hl:l.length≤c) (hC:Kd.C (Kd.int .u8) W A l.length l) (hb: ∀x∈l,0≤x∧x<256):
  Calls Tryz.prog 42 #[.slice (some ⟨W.heap.size,0,none⟩) 1 1] (W.alloc (.cells #[.slice A l.length c] 22)) fun e w'=>e= .returned (.int .u32 (Crc.sum (nats l):Nat))∧Below W.heap.size W w':=
 (sum_one A c l _ _ (by simp) hl (Kd.C_alloc hC _) hb).mono fun e w' ⟨h1,h2⟩=>⟨h1,((Below.refl _ _).alloc (Nat.le_refl _) _).trans (h2.mono (by simp))⟩
def crcB (s:Nat):List Int:=[(s:Int)%256,(s:Int)/256%256,(s:Int)/65536%256,(s:Int)/16777216%256]
theorem rows_two {W:World} {b:Nat} {fr:Nat×Nat} {A B:Option Addr} {c d:Nat} {l m:List Int} (h:W.heap[b]? =some (.cells #[.slice A l.length c,.slice B m.length d] 22 fr)) (hA:Kd.C (Kd.int .u8) W A l.length l) (hB:Kd.C (Kd.int .u8) W B m.length m) (hc:l.length≤c) (hd:m.length≤d):
  Kd.C (Kd.slice 5 (Kd.int .u8)) W (some ⟨b,0,none⟩) 2 [l,m]:=by
 refine⟨rfl,by omega,fun _=>⟨_,rfl,fun j p hj=> ?_⟩⟩
 match j with
 | 0=>
  obtain rfl:l=p:=by simpa using hj
  refine⟨[.slice A l.length c],rfl,⟨A,c,rfl,hc,hA⟩,fun i u hu=> ?_⟩
  match i with
  | 0=>
   show W.cell? ⟨b,0,none⟩=_
   simp only[World.cell?,h];simpa using hu
  |i+1=>simp at hu
 | 1=>
  obtain rfl:m=p:=by simpa using hj
  refine⟨[.slice B m.length d],rfl,⟨B,d,rfl,hd,hB⟩,fun i u hu=> ?_⟩
  match i with
  | 0=>
   show W.cell? ⟨b,1,none⟩=_
   simp only[World.cell?,h];simpa using hu
  |i+1=>simp at hu
 |j+2=>simp at hj
theorem sealed_any (A:Option Addr) (c:Nat) (l:List Int) (w:World) (hC:Kd.C (Kd.int .u8) w A l.length l) (hc:l.length≤c) (hb: ∀x∈l,0≤x∧x<256) (hl:l.length≤1000000):
  Calls Tryz.prog 32 #[.slice A l.length c] w fun e w'=>∃v:Value,e= .returned v∧Kd.R (Kd.int .u8) 5 w' w.heap.size (fun _=>True) v (l++crcB (Crc.sum (nats l)))∧Below w.heap.size w w':=by
 have HS:=hQ (sum_new A c l w hc hC hb)
 have HCA:=hQ (fun(W:World) (h:Below w.heap.size w W)=>Kd.C_below hC h)
 have HL:=hQ (And.intro hc hl)
 have HBB:=hQ (fun(W:World)=>crc_Bytes.calls ((Crc.sum (nats l):Nat):Int) _ W rfl)
 clear hC hb hl hc
 go_enter Tryz.func32,Tryz.ntmps32
 go_wp2_with fail
 refine HS.out.mono ?_
 rintro e w1 ⟨rfl,hb1⟩
 have HB1:=hQ hb1
 clear hb1
 go_wp2_with fail
 refine(HBB.out w1).mono ?_
 rintro e w2 ⟨v0,rfl,hR,hb⟩
 obtain⟨B,d,rfl⟩:=Kd.R_slice hR
 have HB2:=hQ (HB1.out.trans (hb.mono HB1.out.size))
 have HR:=hQ (show Kd.R (Kd.int .u8) 5 w2 w1.heap.size (fun _=>True) (.slice B (crcB (Crc.sum (nats l))).length d) (crcB (Crc.sum (nats l))) from hR)
 clear hR hb
 go_wp2_with fail
 have hA:=HCA.out _ (HB2.out.alloc HB2.out.size (.cells #[.slice A l.length c,.slice B (crcB (Crc.sum (nats l))).length d] 22))
 have hBr:=Kd.C_below (Kd.R_reads' HR.out).2.2 ((Below.refl w2.heap.size w2).alloc (Nat.le_refl _) (.cells #[.slice A l.length c,.slice B (crcB (Crc.sum (nats l))).length d] 22))
 have hlen:([l,crcB (Crc.sum (nats l))]:List (List Int)).flatten=l++crcB (Crc.sum (nats l)):=by simp
 have hl2:(crcB (Crc.sum (nats l))).length=4:=rfl
 have hcat:=concat_any (some ⟨w2.heap.size,0,none⟩) 2 [l,crcB (Crc.sum (nats l))] _ (rows_two (heap_new w2 _) hA hBr HL.out.1 (Kd.R_reads' HR.out).2.1) (Nat.le_refl _) (by rw[hlen,List.length_append,hl2];have:=HL.out.2;omega)
 rw[hlen]at hcat
 have HCT:=hQ hcat
 have HB3:=hQ (HB2.out.alloc HB2.out.size (.cells #[.slice A l.length c,.slice B (crcB (Crc.sum (nats l))).length d] 22))
 clear hA hBr hlen hl2 hcat
 refine HCT.out.mono ?_
 rintro e w4 ⟨v4,rfl,hR4,hb4⟩
 have HP:=hQ (And.intro (Kd.R_lower hR4 HB3.out.size) (HB3.out.trans (hb4.mono HB3.out.size)))
 clear hR4 hb4
 go_wp2_with fail
 go_ret
 exact⟨_,rfl,HP.out.1,HP.out.2⟩
theorem may_ver (v:Int) (w:World):Calls Tryz.prog 21 #[.int .i64 v] w fun e w'=>e= .returned (.bool (decide (1≤v∧v≤3)))∧w=w':=by
 by_cases e1:1≤v
 ·have d1:decide (1≤v)=true:=decide_eq_true e1
  have e:decide (1≤v∧v≤3)=decide (v≤3):=by simp[e1]
  rw[e]
  go_enter Tryz.func21,Tryz.ntmps21
  go_wp2_with fail
  go_ret
  exact⟨rfl,rfl⟩
 ·have d1:decide (1≤v)=false:=decide_eq_false e1
  have e:decide (1≤v∧v≤3)=false:=by simp[e1]
  rw[e]
  go_enter Tryz.func21,Tryz.ntmps21
  go_wp2_with fail
  go_ret
  exact⟨rfl,rfl⟩
def headL (v:Int):List Int:=[84,80,72,v]++crcB (Crc.sum (nats [84,80,72,v]))
theorem head_ok (v:Int) (hv:1≤v∧v≤3) (w:World):Calls Tryz.prog 16 #[.int .i64 v] w fun e w'=>∃(A:Option Addr) (c:Nat),e= .returned (.tuple #[.slice A (headL v).length c,.int .i64 0])∧Kd.R (Kd.int .u8) 5 w' w.heap.size (fun _=>True) (.slice A (headL v).length c) (headL v)∧Below w.heap.size w w':=by
 have HM:=hQ (may_ver v w)
 rw[show decide (1≤v∧v≤3)=true from decide_eq_true hv]at HM
 have HV:=hQ hv
 have hmod:v%256=v:=by omega
 have kc:=fun(w:World) (C:Array Value) (n c:Nat)=>Lib.run_convert_bytes_const (P:=Tryz.prog) w 22 5 C n c Tryz.underlying22 Tryz.underlying5
 go_enter Tryz.func16,Tryz.ntmps16
 go_wp2_with fail
 refine HM.out.mono ?_
 rintro e w1 ⟨rfl,rfl⟩
 go_wp2_with (at_builtin;refine Halt.mk ?_)
 refine Halt.of ?_
 obtain⟨i,hi,hz,hs,hbt⟩:=info_u8c
 refine wpList_append_grows _ rfl (.tmp 8) (.tmp 11) 22 rfl 5 i (.int .u8 0) 1 1 Tryz.underlying22 hi hz hs hbt rfl (by decide) (some ⟨w.heap.size,0,none⟩) 3 3 [.int .u8 84,.int .u8 80,.int .u8 72] rfl (by simp) rfl ?holds ⟨w.heap.size+1,0,none⟩ 1 1 [.int .u8 v] rfl rfl ?hc (by simp[Value.oneCell']) (by omega) (by decide) (by decide) ?_
 case holds=>
  intro b hb j u hu
  cases hb
  have hb0:((w.alloc (.cells #[.int .u8 84,.int .u8 80,.int .u8 72] 5 (3,4))).alloc (.cells #[.int .u8 v] 5)).heap[w.heap.size]? =some (.cells #[.int .u8 84,.int .u8 80,.int .u8 72] 5 (3,4)):=(heap_new_old _ _ _ (by rw[heap_size_alloc];omega)).trans (heap_new _ _)
  have e0:(Addr.add ⟨w.heap.size,0,none⟩ j:Addr)=⟨w.heap.size,j,none⟩:=by simp[Addr.add];intro h;omega
  rw[e0]
  simp only[World.cell?,hb0]
  simpa using hu
 case hc=>
  intro j u hu
  match j with
  | 0=>simp at hu;subst hu;simp[Addr.add]
  |j+1=>simp at hu
 intro v' w' hown hg
 have hz2:((w.alloc (.cells #[.int .u8 84,.int .u8 80,.int .u8 72] 5 (3,4))).alloc (.cells #[.int .u8 v] 5)).heap.size=w.heap.size+1+1:=by rw[heap_size_alloc,heap_size_alloc]
 have hB0:Below w.heap.size w ((w.alloc (.cells #[.int .u8 84,.int .u8 80,.int .u8 72] 5 (3,4))).alloc (.cells #[.int .u8 v] 5)):=((Below.refl _ _).alloc (Nat.le_refl _) _).alloc (by rw[heap_size_alloc];omega) _
 have hB1:Below w.heap.size w w':=hB0.grown hg (by rw[hz2];omega) (fun k hk=>by cases hk)
 have hR:Kd.R (Kd.int .u8) 5 w' w.heap.size (fun _=>True) v' [84,80,72,v]:=⟨fun _ _=>trivial,_,own_weaken hown (by rw[hz2];omega),reps_nums ..⟩
 obtain⟨A,c,rfl⟩:=Kd.R_slice hR
 have hv2:=HV.out
 have HSL:=hQ (sealed_any A c [84,80,72,v] w' (Kd.R_reads' hR).2.2 (Kd.R_reads' hR).2.1 (by intro x hx;simp at hx;omega) (by simp))
 have HB1:=hQ hB1
 clear hown hg hR hz2 hB0 hB1 hi hz hs hbt
 go_wp2_with fail
 refine HSL.out.mono ?_
 rintro e w4 ⟨v4,rfl,hR4,hb4⟩
 obtain⟨A4,c4,rfl⟩:=Kd.R_slice hR4
 have HP:=hQ (And.intro (Kd.R_lower hR4 HB1.out.size) (HB1.out.trans (hb4.mono HB1.out.size)))
 clear hR4 hb4
 go_wp2_with fail
 go_ret2
 exact⟨A4,c4,rfl,HP.out.1,HP.out.2⟩
theorem head_bad (v:Int) (hv: ¬(1≤v∧v≤3)) (w:World):Calls Tryz.prog 16 #[.int .i64 v] w fun e w'=>e= .returned (.tuple #[.slice none 0 0,.int .i64 11])∧Below w.heap.size w w':=by
 have HM:=hQ (may_ver v w)
 rw[show decide (1≤v∧v≤3)=false from decide_eq_false hv]at HM
 go_enter Tryz.func16,Tryz.ntmps16
 go_wp2_with fail
 refine HM.out.mono ?_
 rintro e w1 ⟨rfl,rfl⟩
 go_wp2_with fail
 go_ret2
 exact⟨rfl,Below.refl _ _⟩
theorem u32or (x y:Int) (h1:0≤x) (h2:x<16777216) (h3:0≤y) (h4:y<256):Go.bits .or .u32 ((x*256)%4294967296) (y%4294967296)=x*256+y:=by
 obtain⟨a,rfl⟩:=Int.eq_ofNat_of_zero_le h1
 obtain⟨b,rfl⟩:=Int.eq_ofNat_of_zero_le h3
 rw[show((a:Int)*256)%4294967296=((a*256:Nat):Int)by omega,show((b:Int))%4294967296=((b:Nat):Int)by omega,u32_or_nat _ _ (by omega) (by omega),nat_join 8 (a*256) b (by omega) (by omega)]
 omega
def at4 (l:List Int) (a:Int):Int:=rd l a+256*rd l (a+1)+65536*rd l (a+2)+16777216*rd l (a+3)
theorem rd_lt (l:List Int) (h: ∀x∈l,(Lit.int .u8 x).wf=true) (i:Int):0≤rd l i∧rd l i<256:=by
 unfold rd
 rw[List.getD_eq_getElem?_getD]
 cases e:l[i.toNat]? with
 |none=>simp
 |some v=>
  have:=h v (List.mem_of_getElem? e)
  simp[Lit.wf,IntKind.min,IntKind.max,IntKind.signed,IntKind.bits]at this
  simp;omega
theorem read_eq (k:Nat) (hk:7≤k) (l:List Int) (a:Int) (hl:l.length≤1000000) (h: ∀x∈l,(Lit.int .u8 x).wf=true) (ha: -9223372036854775808≤a∧a≤9223372036854775807):
  crc_Read.f k l a=some (if 0≤a∧a+4≤l.length then(at4 l a,true)else(0,false)):=by
 obtain⟨k,rfl⟩: ∃m,k=m+7:=⟨k-7,by omega⟩
 unfold crc_Read.f
 by_cases h1:a<0
 ·rw[if_pos h1,if_neg (by omega)];simp only[crc_Read.j0,if_true]
 rw[if_neg h1]
 by_cases h2:a>(l.length:Int)
 ·rw[if_pos h2,if_neg (by omega)];simp only[crc_Read.j0,if_true]
 rw[if_neg h2,w64 _ (by omega) (by omega)]
 simp only[crc_Read.j0]
 by_cases h3:(l.length:Int)-a<4
 ·rw[if_pos (decide_eq_true h3),if_neg (by omega)]
 rw[if_neg (by simpa using h3),if_pos (by omega)]
 have b0:=rd_lt l h a
 have b1:=rd_lt l h (a+1)
 have b2:=rd_lt l h (a+2)
 have b3:=rd_lt l h (a+3)
 simp only[crc_Read.l0]
 rw[if_pos (by omega),w64 (a+3) (by omega) (by omega),if_pos (by omega),if_pos (by omega),u32or 0 _ (by omega) (by omega) b3.1 b3.2]
 rw[w64 (3-1) (by omega) (by omega),if_pos (by omega),show a+(3-1)=a+2 by omega,w64 (a+2) (by omega) (by omega),if_pos (by omega),if_pos (by omega),u32or _ _ (by omega) (by omega) b2.1 b2.2]
 rw[w64 (3-1-1) (by omega) (by omega),if_pos (by omega),show a+(3-1-1)=a+1 by omega,w64 (a+1) (by omega) (by omega),if_pos (by omega),if_pos (by omega),u32or _ _ (by omega) (by omega) b1.1 b1.2]
 rw[w64 (3-1-1-1) (by omega) (by omega),if_pos (by omega),show a+(3-1-1-1)=a by omega,w64 a (by omega) (by omega),if_pos (by omega),if_pos (by omega),u32or _ _ (by omega) (by omega) b0.1 b0.2]
 rw[w64 (3-1-1-1-1) (by omega) (by omega),if_neg (by omega)]
 unfold at4
 congr 2
 omega
def wholeB (l:List Int) (a:Int):Bool:=decide (0≤a∧a+4≤l.length)&&decide (at4 l a=((Crc.sum (nats (l.take a.toNat)):Nat):Int))
theorem whole_any (A:Option Addr) (c:Nat) (l:List Int) (a:Int) (w:World) (hC:Kd.C (Kd.int .u8) w A l.length l) (hc:l.length≤c) (hb: ∀x∈l,0≤x∧x<256) (hl:l.length≤1000000) (ha: -9223372036854775808≤a∧a≤9223372036854775807):
  Calls Tryz.prog 20 #[.slice A l.length c,.int .i64 a] w fun e w'=>e= .returned (.bool (wholeB l a))∧Below w.heap.size w w':=by
 have hwf: ∀x∈l,(Lit.int .u8 x).wf=true:=fun x hx=>by
  have:=hb x hx
  simp[Lit.wf,IntKind.min,IntKind.max,IntKind.signed,IntKind.bits];omega
 have hr:=read_eq 7 (Nat.le_refl _) l a hl hwf ha
 by_cases h:0≤a∧a+4≤l.length
 ·rw [if_pos h]at hr
  have HRD:=hQ (crc_Read.calls 7 A c l a _ _ w hC hc hr)
  obtain⟨n,rfl⟩:=Int.eq_ofNat_of_zero_le h.1
  have hn:n≤l.length:=by omega
  have htk:(l.take n).length=n:=by rw[List.length_take];omega
  have HS:=hQ (fun(W:World) (h1:Kd.C (Kd.int .u8) W A (l.take n).length (l.take n))=>sum_new A c (l.take n) W (by omega) h1 (fun x hx=>hb x (List.mem_of_mem_take hx)))
  have HCT:=hQ (fun(W:World) (hB:Below w.heap.size w W)=>(show Kd.C (Kd.int .u8) W A n (l.take n)by have h5:=Kd.C_take (Kd.C_below hC hB) hn;rwa [htk]at h5))
  rw[htk]at HS
  have hres:wholeB l (n:Int)=(at4 l (n:Int)==((Crc.sum (nats (l.take n)):Nat):Int)):=by
   unfold wholeB
   rw[decide_eq_true h,Bool.true_and,Int.toNat_natCast];rfl
  rw[hres]
  clear hC hr hwf hb htk hres h
  generalize at4 l (n:Int)=x at*
  generalize ((Crc.sum (nats (l.take n)):Nat):Int)=s at*
  go_enter Tryz.func20,Tryz.ntmps20
  go_wp2_with fail
  refine HRD.out.mono ?_
  rintro e w1 ⟨rfl,hd⟩
  have HB1:=hQ hd.below
  clear hd
  go_wp2_with fail
  refine(HS.out w1 (HCT.out w1 HB1.out)).mono ?_
  rintro e w2 ⟨rfl,hb2⟩
  have HB2:=hQ (HB1.out.trans (hb2.mono HB1.out.size))
  clear hb2
  go_wp2_with fail
  go_ret
  exact⟨rfl,HB2.out⟩
 ·rw[if_neg h]at hr
  have HRD:=hQ (crc_Read.calls 7 A c l a _ _ w hC hc hr)
  have hres:wholeB l a=false:=by unfold wholeB;rw[decide_eq_false h];rfl
  rw[hres]
  clear hC hr hwf hb hres h
  go_enter Tryz.func20,Tryz.ntmps20
  go_wp2_with fail
  refine HRD.out.mono ?_
  rintro e w1 ⟨rfl,hd⟩
  have HB1:=hQ hd.below
  clear hd
  go_wp2_with fail
  go_ret
  exact⟨rfl,HB1.out⟩
theorem byte_at {w:World} {A:Option Addr} {n:Nat} {l:List Int} (h:Kd.C (Kd.int .u8) w A n l) (i:Nat) (hi:i<l.length):
  ∃ad:Addr,A=some ad∧w.cell? (ad.add i)=some (.int .u8 l[i]):=by
 obtain⟨ad,he,hc⟩:=h.2.2 (by have:=h.1;omega)
 obtain⟨cs,_,hcs,hcell⟩:=hc i l[i] (List.getElem?_eq_getElem hi)
 have hcs':cs=[.int .u8 l[i]]:=hcs
 have:=hcell 0 _ (by rw[hcs'];rfl)
 rw[show(Kd.int IntKind.u8).sz=1 from rfl,Nat.mul_one,Nat.add_zero]at this
 exact⟨ad,he,this⟩
def tphB (l:List Int):Bool:=(strOfNums (l.take 3)).toList==[84,80,72]
def versF (l:List Int):Int×Int:=
 if l.length<8 then(0,2)else if tphB l=false then(0,3)else if wholeB l 4=false then(0,4)else if decide (1≤rd l 3∧rd l 3≤3)=false then(0,11)else(rd l 3,0)
theorem vers_any (A:Option Addr) (c:Nat) (l:List Int) (w:World) (hC:Kd.C (Kd.int .u8) w A l.length l) (hc:l.length≤c) (hb: ∀x∈l,0≤x∧x<256) (hl:l.length≤1000000):
  Calls Tryz.prog 9 #[.slice A l.length c] w fun e w'=>e= .returned (.tuple #[.int .i64 (versF l).1,.int .i64 (versF l).2])∧Below w.heap.size w w':=by
 by_cases h8:l.length<8
 ·have e:versF l=(0,2):=by unfold versF;rw[if_pos h8]
  rw[e]
  have d:decide ((l.length:Int)<8)=true:=decide_eq_true (by omega)
  clear hC
  go_enter Tryz.func9,Tryz.ntmps9
  go_wp2_with fail
  go_ret2
  exact⟨rfl,Below.refl _ _⟩
 ·have d:decide ((l.length:Int)<8)=false:=decide_eq_false (by omega)
  obtain⟨t,ht⟩:=eX (tphB l)
  obtain⟨wh,hwh⟩:=eX (wholeB l 4)
  have htk:(l.take 3).length=3:=by rw[List.length_take];omega
  have hC3:=Kd.C_take hC (show 3≤l.length by omega)
  have hcv:=Kd.C_string (P:=Tryz.prog) (A:=A) (c:=c) Tryz.underlying22 Tryz.underlying5 Tryz.underlying9 hC3
  rw[htk]at hcv
  obtain⟨ad,had,hcell⟩:=byte_at hC 3 (by omega)
  have hr3:rd l 3=l[3]:=by simp[rd,show 3<l.length by omega]
  have hb3:=hb l[3] (List.getElem_mem _)
  rw[←hr3]at hcell hb3
  have HWH:=hQ (whole_any A c l 4 w hC hc hb hl (by omega))
  rw[hwh]at HWH
  have HMY:=hQ (fun W=>may_ver (rd l 3) W)
  obtain⟨m,hm⟩:=eX (decide (1≤rd l 3∧rd l 3≤3))
  rw[hm]at HMY
  have HCB:=hQ (fun(W:World) (hB:Below w.heap.size w W)=>(show W.cell? (ad.add 3)=some (.int .u8 (rd l 3)) from by
   obtain⟨ad2,h1,h2⟩:=byte_at (Kd.C_below hC hB) 3 (by omega)
   rw[had]at h1;cases h1;rw[hr3];exact h2))
  have e:versF l=if t=false then(0,3)else if wh=false then(0,4)else if m=false then(0,11)else(rd l 3,0):=by
   unfold versF;rw[if_neg h8,ht,hwh,hm]
  rw[e]
  unfold tphB at ht
  have htb:((strOfNums (l.take 3)).toList==[84,80,72])=t:=ht
  clear hC hb hl e hC3 htk hr3 ht hwh hm
  subst had
  generalize rd l 3=r at*
  cases t
  ·go_enter Tryz.func9,Tryz.ntmps9
   go_wp2_with fail
   go_ret2
   exact⟨rfl,Below.refl _ _⟩
  ·go_enter Tryz.func9,Tryz.ntmps9
   go_wp2_with fail
   refine HWH.out.mono ?_
   rintro e w1 ⟨rfl,hb1⟩
   have hcell1:=HCB.out w1 hb1
   have hcell2:w1.cell? ⟨ad.block,ad.off+3,none⟩=some (.int .u8 r):=by first|exact hcell1|simpa [Addr.add]using hcell1
   have HB1:=hQ hb1
   clear hb1 hcv
   cases wh
   ·go_wp2_with fail
    go_ret2
    exact⟨rfl,HB1.out⟩
   ·go_wp2_with fail
    refine(HMY.out w1).mono ?_
    rintro e w2 ⟨rfl,rfl⟩
    cases m
    ·go_wp2_with fail
     go_ret2
     exact⟨rfl,HB1.out⟩
    ·go_wp2_with fail
     go_ret2
     exact⟨rfl,HB1.out⟩
end Go.Proofs.YtfflenbfapgilaaGreat
