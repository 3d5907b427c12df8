/- Texts laid as one by shake.py, cut to what the claim needs: Blobs. (Names that begin with W and the print's groups (G..x, G..z): laid by the kit's print, cut.) -/
import Derived.Test.YtfflenbfapgilaaGreatZCe
import Derived.Test.YtfflenbfapgilaaGreatZCg
import Derived.Test.YtfflenbfapgilaaGreatZCi
import Derived.Lib.Bytes
set_option linter.unusedVariables false
set_option linter.unusedSimpArgs false
set_option maxHeartbeats 8000000
set_option maxRecDepth 100000
namespace Go.Proofs.YtfflenbfapgilaaGreat.GVB
open Go.RowKit Go.Proofs.YtfflenbfapgilaaGreatW.PrintWords
def outS (a:Nat) (d:Nat×Nat×Nat):Int×Int×Int:=if d.2.2=0 then((d.1:Int),((a+d.2.1:Nat):Int),0)else(0,0,(d.2.2:Int))
theorem p128 (i:Nat):(2:Nat)^(7*i)=128^i:=by rw[Nat.pow_mul]
theorem p128_le (i:Nat) (h:i≤8):128^(i+1)≤9223372036854775808:=by
 have:128^(i+1)≤128^9:=Nat.pow_le_pow_right (by omega) (by omega)
 have e:(128:Nat)^9=9223372036854775808:=by decide
 omega
theorem part_lt (i y:Nat) (hi:i≤9) (h9:i=9→y≤1):(y%128)*128^i<18446744073709551616∧(i=9→(y%128)*128^i≤9223372036854775808)∧(y%128)*128^i+128^i≤18446744073709551616:=by
 have hp:0<128^i:=Nat.pow_pos (by omega)
 by_cases h:i=9
 ·subst h
  have:=h9 rfl
  have e:(128:Nat)^9=9223372036854775808:=by decide
  rw[e]
  rcases(by omega:y=0∨y=1)with rfl|rfl<;>omega
 ·have h8:=p128_le i (by omega)
  rw[Nat.pow_succ]at h8
  have:(y%128)*128^i≤127*128^i:=Nat.mul_le_mul_right _ (by omega)
  omega
theorem andNot128 (y:Nat) (h:y<256):Go.bits .andNot .u8 (y:Int) 128=((y%128:Nat):Int):=by
 have: ∀y:Nat,y<256→Go.bits .andNot .u8 (y:Int) 128=((y%128:Nat):Int):=by decide+kernel
 exact this y h
theorem wrapu (n:Nat) (h:n<18446744073709551616):IntKind.u64.wrap (n:Int)=(n:Int):=by rw[IntKind.wrap_u64];omega
theorem or_step (acc i y:Nat) (ha:acc<128^i) (hi:i≤9) (h9:i=9→y≤1) (hy:y<256):
  Go.bits .or .u64 (acc:Int) (shl .u64 (IntKind.u64.wrap (Go.bits .andNot .u8 (y:Int) 128)) (wrap64 (7*(i:Int))))=((acc+y%128*128^i:Nat):Int):=by
 obtain⟨h1,_,h2⟩:=part_lt i y hi h9
 have hs:wrap64 (7*(i:Int))=((7*i:Nat):Int):=by rw[w64 _ (by omega) (by omega)];omega
 have hsh:shl .u64 ((y%128:Nat):Int) ((7*i:Nat):Int)=((y%128*128^i:Nat):Int):=by
  unfold shl
  rw[Int.toNat_natCast,show min (7*i) (IntKind.bits .u64)=7*i from Nat.min_eq_left (by show 7*i≤64;omega)]
  rw[show((y%128:Nat):Int)*2^(7*i)=((y%128*128^i:Nat):Int)by rw[←p128];simp]
  exact wrapu _ h1
 rw[andNot128 y hy,wrapu _ (by omega),hs,hsh,bits_or_u64_nat _ _ (by omega) h1,Nat.or_comm]
 have:=Nat.two_pow_add_eq_or_of_lt (i:=7*i) (b:=acc) (by rw[p128];exact ha) (y%128)
 rw[p128,Nat.mul_comm]at this
 rw[←this,Nat.add_comm]
theorem drop_at (l:List Int) (j:Nat) (h:j<l.length):(nats l).drop j=(rd l (j:Int)).toNat::(nats l).drop (j+1):=by
 have h1:j<(nats l).length:=by simpa [nats]using h
 rw[List.drop_eq_getElem_cons h1]
 congr 1
 simp[nats,rd,h]
theorem rd_byte (l:List Int) (hb: ∀x∈l,0≤x∧x<256) (j:Nat) (h:j<l.length): ∃y:Nat,rd l (j:Int)=(y:Int)∧y<256:=by
 have:=hb l[j] (List.getElem_mem h)
 refine⟨l[j].toNat, ?_,by omega⟩
 simp[rd,h]
 omega
theorem wsum (a i:Nat) (h:a+i≤9223372036854775807):wrap64 ((a:Int)+(i:Int))=((a+i:Nat):Int):=by rw[w64 _ (by omega) (by omega)];omega
theorem wsucc (i:Nat) (h:i<9223372036854775807):wrap64 ((i:Int)+1)=((i+1:Nat):Int):=by rw[w64 _ (by omega) (by omega)];omega
theorem w7 (i:Nat) (h:i≤9):wrap64 (7*(i:Int))=((7*i:Nat):Int):=by rw[w64 _ (by omega) (by omega)];omega
theorem get_l0 (l:List Int) (hb: ∀x∈l,0≤x∧x<256) (hl:l.length≤4611686018427387904): ∀(f i acc k a:Nat),f+i=10→a+i≤l.length→acc<128^i→2*f+1≤k→
  varint_Get.l0 k l (a:Int) (acc:Int) (i:Int)=some (outS a (dec f i acc ((nats l).drop (a+i)))):=by
 intro f
 induction f with
 |zero=>
  intro i acc k a hi ha hacc hk
  obtain⟨k,rfl⟩: ∃j,k=j+1:=⟨k-1,by omega⟩
  obtain rfl:i=10:=by omega
  simp[varint_Get.l0,dec,outS]
 | succ f ih=>
  intro i acc k a hi ha hacc hk
  obtain⟨k,rfl⟩: ∃j,k=j+2:=⟨k-2,by omega⟩
  rw[varint_Get.l0,wsum a i (by omega),if_pos (by omega)]
  by_cases h:a+i=l.length
  ·rw[if_pos (by omega),List.drop_eq_nil_of_le (by simp[nats];omega)]
   rfl
  ·rw [if_neg (by omega),if_pos (by omega),if_pos (by omega),drop_at l (a+i) (by omega)]
   obtain⟨y,hy,hy2⟩:=rd_byte l hb (a+i) (by omega)
   rw[hy,Int.toNat_natCast]
   have j2: ∀b:Bool,b=decide ((i=9∧1<y)∨(0<i∧y=0))→varint_Get.j2 (k+1) l (a:Int) (acc:Int) (i:Int) (y:Int) (i:Int) b=some (outS a (dec (f+1) i acc (y::(nats l).drop (a+i+1)))):=by
    intro b hbb
    simp only[varint_Get.j2,dec]
    by_cases hd:(i=9∧1<y)∨(0<i∧y=0)
    ·rw[if_pos (by rw[hbb];exact decide_eq_true hd),if_pos hd];rfl
    ·rw [if_neg (by rw[hbb];simpa using hd),if_neg hd,w7 i (by omega),if_pos (by omega),←w7 i (by omega),or_step acc i y hacc (by omega) (by omega) hy2,wsum a i (by omega),wsucc i (by omega),wsucc (a+i) (by omega)]
     by_cases hx:y<128
     ·rw[if_pos (by omega),if_pos hx,Nat.mod_eq_of_lt hx]
      rfl
     ·rw[if_neg (by omega),if_neg hx]
      refine ih (i+1) _ k a (by omega) (by omega) ?_ (by omega)
      have:=(part_lt i y (by omega) (by omega)).2.2
      have:y%128*128^i≤127*128^i:=Nat.mul_le_mul_right _ (by omega)
      rw[Nat.pow_succ];omega
   have:(a+(i:Nat))+1=a+i+1:=rfl
   split
   ·split
    ·exact j2 _ (by simp;omega)
    ·split
     ·refine j2 _ ?_
      rw[Bool.eq_iff_iff];simp;omega
     ·exact j2 _ (by simp;omega)
   ·split
    ·refine j2 _ ?_
     rw[Bool.eq_iff_iff];simp;omega
    ·exact j2 _ (by simp;omega)
def getS (l:List Int) (a:Int):Int×Int×Int:=if a<0∨(l.length:Int)<a then(0,0,1)else outS a.toNat (dec 10 0 0 ((nats l).drop a.toNat))
theorem get_is (l:List Int) (hb: ∀x∈l,0≤x∧x<256) (hl:l.length≤4611686018427387904) (a:Int) (k:Nat) (hk:30≤k):varint_Get.f k l a=some (getS l a):=by
 obtain⟨k,rfl⟩: ∃j,k=j+1:=⟨k-1,by omega⟩
 unfold varint_Get.f getS
 by_cases h:a<0
 ·rw[if_pos h,if_pos (.inl h)];rfl
 ·rw [if_neg h]
  by_cases h2:(l.length:Int)<a
  ·rw[if_pos (.inr h2)]
   simp only[varint_Get.j0]
   rw[if_pos (decide_eq_true h2)]
  ·rw[if_neg (by omega)]
   simp only[varint_Get.j0]
   rw[if_neg (by simpa using h2)]
   have:=get_l0 l hb hl 10 0 0 k a.toNat rfl (by omega) (by simp) (by omega)
   rw[Int.toNat_of_nonneg (by omega)]at this
   simpa using this
theorem bt_of (l:List Int) (hb: ∀x∈l,0≤x∧x<256) (j:Nat) (h:j<l.length):bt (strOfNums l) (j:Int)=rd l (j:Int):=by
 have:=hb (l[((j:Int)).toNat]'(by rw[Int.toNat_natCast];exact h)) (List.getElem_mem _)
 have hs:j<(strOfNums l).size:=by rw[strOfNums_size];exact h
 unfold bt rd
 rw[dif_pos (by rw[Int.toNat_natCast];exact hs),List.getD_eq_getElem?_getD,List.getElem?_eq_getElem (by rw[Int.toNat_natCast];exact h)]
 show(((strOfNums l).data[j]'_).toNat:Int)=_
 simp only[strOfNums,List.getElem_toArray,List.getElem_map,UInt8.toNat_ofNat',Option.getD_some,Int.toNat_natCast]at this ⊢
 omega
theorem mul_step (acc i y:Nat) (ha:acc<128^i) (hi:i≤9) (h9:i=9→y≤1):
  IntKind.u64.wrap ((acc:Int)+IntKind.u64.wrap (((128^i:Nat):Int)*Int.tmod (y:Int) 128))=((acc+y%128*128^i:Nat):Int):=by
 obtain⟨h1,_,h2⟩:=part_lt i y hi h9
 rw[tmod128,show((128^i:Nat):Int)*((y:Int)%128)=((y%128*128^i:Nat):Int)by rw[Int.natCast_mul,Int.mul_comm];rfl,wrapu _ h1,←Int.natCast_add,wrapu _ (by omega)]
theorem next_mul (i:Nat) (hi:i≤8):IntKind.u64.wrap (((128^i:Nat):Int)*128)=((128^(i+1):Nat):Int):=by
 have:=p128_le i hi
 rw[show((128^i:Nat):Int)*128=((128^(i+1):Nat):Int)by rw[Nat.pow_succ,Int.natCast_mul];rfl,wrapu _ (by omega)]
theorem ref_l0 (l:List Int) (hb: ∀x∈l,0≤x∧x<256) (hl:l.length≤4611686018427387904): ∀(f i acc k a:Nat),f+i=10→a+i≤l.length→acc<128^i→2*f+1≤k→
  tephraref01_Get.l0 k (strOfNums l) (a:Int) (acc:Int) ((128^i%18446744073709551616:Nat):Int) (i:Int)=some (outS a (dec f i acc ((nats l).drop (a+i)))):=by
 intro f
 induction f with
 |zero=>
  intro i acc k a hi ha hacc hk
  obtain⟨k,rfl⟩: ∃j,k=j+1:=⟨k-1,by omega⟩
  obtain rfl:i=10:=by omega
  simp[tephraref01_Get.l0,dec,outS]
 | succ f ih=>
  intro i acc k a hi ha hacc hk
  obtain⟨k,rfl⟩: ∃j,k=j+2:=⟨k-2,by omega⟩
  have hmod:128^i%18446744073709551616=128^i:=by
   rcases Nat.lt_or_ge i 1 with h0|h0
   ·obtain rfl:i=0:=by omega
    rfl
   ·have:=p128_le (i-1) (by omega)
    rw[show i-1+1=i by omega]at this
    exact Nat.mod_eq_of_lt (by omega)
  rw[hmod]
  rw[tephraref01_Get.l0,wsum a i (by omega),strOfNums_size,if_pos (by omega)]
  by_cases h:a+i=l.length
  ·rw[if_pos (by omega),List.drop_eq_nil_of_le (by simp[nats];omega)]
   rfl
  ·rw [if_neg (by omega),if_pos (by omega),if_pos (by omega),drop_at l (a+i) (by omega),bt_of l hb (a+i) (by omega)]
   obtain⟨y,hy,hy2⟩:=rd_byte l hb (a+i) (by omega)
   rw[hy,Int.toNat_natCast,wrapu y (by omega)]
   have j2: ∀b:Bool,b=decide (i=9∧1<y)→tephraref01_Get.j2 (k+1) (strOfNums l) (a:Int) (acc:Int) ((128^i:Nat):Int) (i:Int) (y:Int) b=some (outS a (dec (f+1) i acc (y::(nats l).drop (a+i+1)))):=by
    intro b hbb
    simp only[tephraref01_Get.j2,dec]
    by_cases hd:i=9∧1<y
    ·rw[if_pos (by rw[hbb];exact decide_eq_true hd),if_pos (.inl hd)];rfl
    ·rw [if_neg (by rw[hbb];simpa using hd),mul_step acc i y hacc (by omega) (by omega),wsum a i (by omega),wsucc i (by omega),wsucc (a+i) (by omega)]
     by_cases hx:y<128
     ·rw [if_pos (by omega)]
      by_cases h0:0<i∧y=0
      ·rw[if_pos (by omega),if_pos (by omega),if_pos (.inr h0)];rfl
      ·rw[if_neg (c:=(i=9∧1<y)∨(0<i∧y=0)) (by omega),if_pos hx,Nat.mod_eq_of_lt hx]
       split
       ·rw[if_neg (by omega)];rfl
       ·rfl
     ·rw [if_neg (by omega),if_neg (c:=(i=9∧1<y)∨(0<i∧y=0)) (by omega),if_neg hx]
      have i8:i≤8:=by omega
      have hp:=p128_le i i8
      rw[next_mul i i8]
      have:=ih (i+1) (acc+y%128*128^i) k a (by omega) (by omega) (by
       have:y%128*128^i≤127*128^i:=Nat.mul_le_mul_right _ (by omega)
       rw[Nat.pow_succ];omega) (by omega)
      rw[Nat.mod_eq_of_lt (a:=128^(i+1)) (by omega)]at this
      exact this
   split
   ·exact j2 _ (by rw[Bool.eq_iff_iff];simp;omega)
   ·exact j2 _ (by rw[Bool.eq_iff_iff];simp;omega)
theorem ref_is (l:List Int) (hb: ∀x∈l,0≤x∧x<256) (hl:l.length≤4611686018427387904) (a:Int) (k:Nat) (hk:30≤k):tephraref01_Get.f k (strOfNums l) a=some (getS l a):=by
 obtain⟨k,rfl⟩: ∃j,k=j+1:=⟨k-1,by omega⟩
 unfold tephraref01_Get.f getS
 rw[strOfNums_size]
 by_cases h:a<0
 ·rw[if_pos h,if_pos (.inl h)];rfl
 ·rw [if_neg h]
  by_cases h2:(l.length:Int)<a
  ·rw[if_pos (.inr h2)]
   simp only[tephraref01_Get.j0]
   rw[if_pos (decide_eq_true h2)]
  ·rw[if_neg (by omega)]
   simp only[tephraref01_Get.j0]
   rw[if_neg (by simpa using h2)]
   have:=ref_l0 l hb hl 10 0 0 k a.toNat rfl (by omega) (by simp) (by omega)
   rw[Int.toNat_of_nonneg (by omega)]at this
   simpa using this
theorem vb_bytes (m:Nat) (h:m<18446744073709551616): ∀x∈vb m,x<256:=vb_byte 10 m (by omega)
theorem nats_ints (u:List Nat):nats (ints u)=u:=by simp[nats,ints,Function.comp_def]
theorem ints_bytes (u:List Nat) (h: ∀x∈u,x<256): ∀x∈ints u,0≤x∧x<256:=by
 intro x hx
 simp only[ints,List.mem_map]at hx
 obtain⟨y,hy,rfl⟩:=hx
 have:=h y hy
 omega
theorem str_inj (u v:List Nat) (hu: ∀x∈u,x<256) (hv: ∀x∈v,x<256) (h:(strOfNums (ints u)).toList=(strOfNums (ints v)).toList):u=v:=by
 rw[Lib.strOfNums_toList,Lib.strOfNums_toList]at h
 simp only[Lib.bytesOf,ints,List.map_map]at h
 have key: ∀(w:List Nat),(∀x∈w,x<256)→(w.map ((fun n:Int=>UInt8.ofNat n.toNat) ∘ fun(x:Nat)=>(x:Int))).map UInt8.toNat=w:=by
  intro w hw
  rw[List.map_map]
  conv=>rhs;rw[←List.map_id w]
  apply List.map_congr_left
  intro x hx
  have:=hw x hx
  simp;omega
 rw[←key u hu,h,key v hv]
end Go.Proofs.YtfflenbfapgilaaGreat.GVB
namespace Go.Proofs.YtfflenbfapgilaaGreat
open Go.RowKit Go.Proofs.YtfflenbfapgilaaGreatW.PrintWords
def blob (s:ByteArray):List Int:=ints (vb s.size)++bytesOf s
def blobs (ts:List ByteArray):List Int:=ts.flatMap blob
theorem blobs_step (ts:List ByteArray) (i:Nat) (h:i<ts.length):blobs (ts.take (i+1))=blobs (ts.take i)++blob ts[i]:=by
 unfold blobs
 rw[List.take_succ_eq_append_getElem h,List.flatMap_append]
 show _++(blob ts[i]++[])=_
 rw[List.append_nil]
theorem blobs_cut (ts:List ByteArray) (i:Nat) (h:i<ts.length):blobs ts=blobs (ts.take i)++(blob ts[i]++blobs (ts.drop (i+1))):=by
 unfold blobs
 conv=>lhs;rw[←List.take_append_drop i ts,List.drop_eq_getElem_cons h]
 rw[List.flatMap_append,List.flatMap_cons]
theorem blob_len (s:ByteArray):(blob s).length=(vb s.size).length+s.size:=by
 unfold blob
 rw[List.length_append,bytesOf_length];simp[ints]
theorem list_any (A:Option Addr) (c:Nat) (l:List Int) (B:Option Addr) (cb:Nat) (ts:List ByteArray) (w:World) (hr:Kd.C (Kd.int .u8) w A l.length l) (hc:l.length≤c) (hs:Kd.C Kd.string w B ts.length ts) (hsc:ts.length≤cb)
  (hl:l.length+(blobs ts).length≤140737488355000):
  Calls Tryz.prog 72 #[.slice A l.length c,.slice B ts.length cb] w fun e w'=>∃v:Value,e= .returned v∧Kd.R (Kd.int .u8) 5 w' w.heap.size (fun _=>True) v (l++blobs ts)∧Below w.heap.size w w':=by
 have HC:=hQ hr
 have HS:=hQ hs
 have HL:=hQ hl
 have htm:ts.length≤9223372036854775807:=hs.2.1
 clear hr hs hl
 go_enter Tryz.func72,Tryz.ntmps72
 go_wp2_with fail
 refine(clone_any A c l _ HC.out hc (by have:=HL.out;omega)).mono ?_
 rintro e w1 ⟨v1,rfl,ho1,hb1⟩
 have HO1:=hQ ho1
 clear ho1
 go_wp2_with fail
 go_loopw [5,12] (fun u5 u12 wr=>∃(i:Nat),i≤ts.length∧u12= .int .i64 i∧Kd.R (Kd.int .u8) 5 wr w.heap.size (fun _=>True) u5 (l++blobs (ts.take i))∧Below w.heap.size w wr) (fun _ v _=>ts.length-(intOf v).toNat)
 case atStart=>exact⟨0,by omega,rfl,by simpa [blobs]using HO1.out,hb1⟩
 case round=>
  obtain⟨i,hi,rfl,ho,hbl⟩:=hrel
  by_cases hlt:i<ts.length
  ·have hcell:=Kd.at_string (Kd.C_below HS.out hbl) (i:Int) (by omega) (by omega)
   obtain⟨ad,rfl,hcell⟩:=hcell
   rw[Int.toNat_natCast]at hcell
   have hbc:=congrArg List.length (blobs_cut ts i hlt)
   have hbs:=blobs_step ts i hlt
   obtain⟨s,hsd⟩:=eX (ts[i])
   have hz:rdOf ByteArray.empty ts (i:Int)=s:=by simp[rdOf,hlt,hsd]
   rw[hz]at hcell
   rw[hsd]at hbc hbs
   obtain⟨xs,HXS⟩: ∃xs,Hid (l++blobs (ts.take i)=xs):=⟨_,rfl⟩
   have hbound:xs.length+(vb s.size).length+s.size≤140737488355000:=by
    rw[←HXS.out,List.length_append]
    rw[List.length_append,List.length_append,blob_len]at hbc
    have:=HL.out
    omega
   rw[HXS.out]at ho
   have HB:=hQ hbound
   have hm1:s.size≤140737488355000:=by omega
   have hm2:s.size<18446744073709551616:=by omega
   have hm3:IntKind.u64.wrap (s.size:Int)=(s.size:Int):=by rw[IntKind.wrap_u64];omega
   obtain⟨A5,c5,rfl⟩:=Kd.R_slice ho
   have HO:=hQ (Kd.R_reads' ho)
   have HST:=hQ hbs
   clear ho hbc hbs hbound hz
   go_wp2_with (fail)
   refine(put_any A5 c5 xs s.size _ HO.out.2.2 HO.out.2.1 (by have:=HB.out;omega) hm2).mono ?_
   rintro e w2 ⟨v2,rfl,ho2,hb2⟩
   have HO2:=hQ (Kd.R_lower ho2 hbl.size)
   have hb3:=hbl.trans (hb2.mono hbl.size)
   clear ho2
   go_wp2_with (at_builtin;refine Halt.mk ?_)
   refine Halt.of ?_
   refine print_append_str (w0:=w) w.heap.size rfl (.tmp 20) (.tmp 21) 22 9 5 rfl Tryz.underlying22 Tryz.underlying9 info_u8 v2 (xs++ints (vb s.size)) s rfl rfl (Kd.own_of_R HO2.out) hb3 hb3.size (by have:=HB.out;rw[List.length_append,show(ints (vb s.size)).length=(vb s.size).length by simp[ints]];omega) ?_
   intro v3 w3 hown hb4 hg
   have ho3:Kd.R (Kd.int .u8) 5 w3 w.heap.size (fun _=>True) v3 (xs++ints (vb s.size)++bytesOf s):=Kd.R_of_own hown (fun _ _=>trivial)
   have HO3:=hQ ho3
   clear ho3 hown hg
   go_wp2
   go_roundw
   case rel=>exact⟨i+1,by omega,by go_num,by rw[HST.out,blob,←List.append_assoc,←List.append_assoc,HXS.out];exact HO3.out,hb4⟩
   case measure=>simp[intOf];omega
  ·obtain rfl:i=ts.length:=by omega
   rw[List.take_of_length_le (Nat.le_refl _)]at ho
   go_wp2_with fail
   go_ret
   exact⟨_,rfl,ho,hbl⟩
theorem dec_errs: ∀(f i acc:Nat) (l:List Nat),(dec f i acc l).2.2=0∨(dec f i acc l).2.2=2∨(dec f i acc l).2.2=3:=by
 intro f
 induction f with
 |zero=>intro i acc l;exact .inr (.inr rfl)
 | succ f ih=>
  intro i acc l
  cases l with
  |nil=>exact .inr (.inl rfl)
  | cons x r=>
   simp only[dec]
   split
   ·exact .inr (.inr rfl)
   ·split
    ·exact .inl rfl
    ·exact ih ..
open Go.Proofs.YtfflenbfapgilaaGreat.GVB in
theorem getS_cases (l:List Int) (hb: ∀x∈l,0≤x∧x<256) (a:Int):(∃e:Int,getS l a=(0,0,e)∧(e=1∨e=2∨e=3))∨
  ∃lo n p:Nat,a=(lo:Int)∧getS l a=((n:Int),(p:Int),0)∧lo≤p∧p≤l.length∧n<18446744073709551616∧(l.take p).drop lo=ints (vb n):=by
 unfold getS
 split
 ·exact .inl ⟨1,rfl,.inl rfl⟩
 ·rename_i h
  obtain⟨lo,hlo⟩: ∃lo:Nat,a=(lo:Int):=⟨a.toNat,by omega⟩
  subst hlo
  rw[Int.toNat_natCast]
  obtain⟨⟨n,c,ec⟩,hd⟩: ∃d,dec 10 0 0 ((nats l).drop lo)=d:=⟨_,rfl⟩
  rw[hd]
  unfold outS
  have hbn: ∀x∈(nats l).drop lo,x<256:=by
   intro x hx
   have:=List.mem_of_mem_drop hx
   simp only[nats,List.mem_map]at this
   obtain⟨y,hy,rfl⟩:=this
   have:=hb y hy
   omega
  by_cases he:ec=0
  ·subst he
   obtain⟨ht,hcl,hcp⟩:=vb_of_dec0 _ n c hbn hd
   have hn:=dec_lt 10 0 0 _ n c rfl (by simp) hbn hd
   rw[List.length_drop]at hcl
   have hln:(nats l).length=l.length:=by simp[nats]
   refine .inr ⟨lo,n,lo+c,rfl,by rw[if_pos rfl],by omega,by omega,hn, ?_⟩
   rw[←ht]
   have hl:ints (nats l)=l:=by
    unfold ints nats
    rw[List.map_map]
    conv=>rhs;rw[←List.map_id l]
    apply List.map_congr_left
    intro x hx
    have:=hb x hx
    simp;omega
   conv=>lhs;rw[←hl]
   rw[List.drop_take,show lo+c-lo=c by omega]
   simp[ints]
  ·refine .inl ⟨ec,by rw[if_neg he], ?_⟩
   have:=dec_errs 10 0 0 ((nats l).drop lo)
   rw[hd]at this
   have h2:ec=0∨ec=2∨ec=3:=this
   omega
open Go.Proofs.YtfflenbfapgilaaGreat.GVB in
def bgetS (l:List Int) (a lim:Int):ByteArray×Int×Int:=
 if (getS l a).2.2≠0 then(⟨#[]⟩,0,(getS l a).2.2)
 else if (if lim<0 then 0 else lim)<(getS l a).1 then(⟨#[]⟩,0,5)
 else if (l.length:Int)-(getS l a).2.1<(getS l a).1 then(⟨#[]⟩,0,2)
 else(strOfNums ((l.take ((getS l a).2.1.toNat+(getS l a).1.toNat)).drop (getS l a).2.1.toNat),(getS l a).2.1+(getS l a).1,0)
attribute [local go_sem] Go.Proofs.YtfflenbfapgilaaGreatW.PrintMore.max2_int
section
open Go.Proofs.YtfflenbfapgilaaGreat.GVB
variable (A:Option Addr) (c:Nat) (l:List Int) (lim:Int) (w:World)
theorem bget_err (a ec:Int) (hr:Kd.C (Kd.int .u8) w A l.length l) (hc:l.length≤c) (hg:varint_Get.f 30 l a=some (0,0,ec)) (he:(ec !=0)=true):
  Calls Tryz.prog 74 #[.slice A l.length c,.int .i64 a,.int .i64 lim] w fun e w'=>e= .returned (.tuple #[.string ⟨#[]⟩,.int .i64 0,.int .i64 ec])∧Below w.heap.size w w':=by
 have HC:=hQ hr
 have HL:=hQ hc
 have HG:=hQ hg
 clear hr hc hg
 go_enter Tryz.func74,Tryz.ntmps74
 go_wp2_with fail
 refine(varint_Get.calls 30 _ _ l a 0 0 ec _ HC.out HL.out HG.out).mono ?_
 rintro e w1 ⟨rfl,hd⟩
 have hb1:=hd.below
 clear hd
 go_wp2_with fail
 go_ret3
 exact⟨rfl,hb1⟩
theorem bget_big (a:Int) (n p:Nat) (M:Int) (hr:Kd.C (Kd.int .u8) w A l.length l) (hc:l.length≤c) (hg:varint_Get.f 30 l a=some ((n:Int),(p:Int),0)) (hM:(if lim<0 then 0 else lim)=M) (hw:IntKind.u64.wrap M=M) (b5:decide (M<(n:Int))=true):
  Calls Tryz.prog 74 #[.slice A l.length c,.int .i64 a,.int .i64 lim] w fun e w'=>e= .returned (.tuple #[.string ⟨#[]⟩,.int .i64 0,.int .i64 5])∧Below w.heap.size w w':=by
 have HC:=hQ hr
 have HL:=hQ hc
 have HG:=hQ hg
 clear hr hc hg
 go_enter Tryz.func74,Tryz.ntmps74
 go_wp2_with fail
 refine(varint_Get.calls 30 _ _ l a n p 0 _ HC.out HL.out HG.out).mono ?_
 rintro e w1 ⟨rfl,hd⟩
 have hb1:=hd.below
 clear hd
 go_wp2_with fail
 go_ret3
 exact⟨rfl,hb1⟩
theorem bget_short (a:Int) (n p d:Nat) (M:Int) (hr:Kd.C (Kd.int .u8) w A l.length l) (hc:l.length≤c) (hg:varint_Get.f 30 l a=some ((n:Int),(p:Int),0)) (hM:(if lim<0 then 0 else lim)=M) (hw:IntKind.u64.wrap M=M) (b5:decide (M<(n:Int))=false)
  (hsub:(l.length:Int)-(p:Int)=(d:Int)) (hw1:wrap64 (d:Int)=(d:Int)) (hw2:IntKind.u64.wrap (d:Int)=(d:Int)) (b2:d<n):
  Calls Tryz.prog 74 #[.slice A l.length c,.int .i64 a,.int .i64 lim] w fun e w'=>e= .returned (.tuple #[.string ⟨#[]⟩,.int .i64 0,.int .i64 2])∧Below w.heap.size w w':=by
 have HC:=hQ hr
 have HL:=hQ hc
 have HG:=hQ hg
 clear hr hc hg
 go_enter Tryz.func74,Tryz.ntmps74
 go_wp2_with fail
 refine(varint_Get.calls 30 _ _ l a n p 0 _ HC.out HL.out HG.out).mono ?_
 rintro e w1 ⟨rfl,hd⟩
 have hb1:=hd.below
 clear hd
 go_wp2_with fail
 go_ret3
 exact⟨rfl,hb1⟩
theorem bget_ok (a:Int) (n p d q:Nat) (M:Int) (hr:Kd.C (Kd.int .u8) w A l.length l) (hc:l.length≤c) (hg:varint_Get.f 30 l a=some ((n:Int),(p:Int),0)) (hM:(if lim<0 then 0 else lim)=M) (hw:IntKind.u64.wrap M=M) (b5:decide (M<(n:Int))=false)
  (hsub:(l.length:Int)-(p:Int)=(d:Int)) (hw1:wrap64 (d:Int)=(d:Int)) (hw2:IntKind.u64.wrap (d:Int)=(d:Int)) (b2: ¬d<n) (hw3:wrap64 (n:Int)=(n:Int)) (hw4:wrap64 ((p:Int)+(n:Int))=(q:Int)) (hq1:p≤q) (hq2:q≤l.length):
  Calls Tryz.prog 74 #[.slice A l.length c,.int .i64 a,.int .i64 lim] w fun e w'=>e= .returned (.tuple #[.string (strOfNums ((l.take q).drop p)),.int .i64 (q:Int),.int .i64 0])∧Below w.heap.size w w':=by
 have HC:=hQ hr
 have HL:=hQ hc
 have HG:=hQ hg
 have hq3:q≤c:=by clear hw hw1 hw2 hw3 hw4 hM;omega
 clear hr hc hg
 go_enter Tryz.func74,Tryz.ntmps74
 go_wp2_with fail
 refine(varint_Get.calls 30 _ _ l a n p 0 _ HC.out HL.out HG.out).mono ?_
 rintro e w1 ⟨rfl,hd⟩
 have hb1:=hd.below
 clear hd
 have hC:=Kd.C_mid (lo:=p) (hi:=q) (c:=c) (Kd.C_below HC.out hb1) hq1 hq2 HL.out
 have hcv:=Kd.C_string (P:=Tryz.prog) (c:=c-p) Tryz.underlying22 Tryz.underlying5 Tryz.underlying9 hC
 rw[show((l.take q).drop p).length=q-p by clear hw hw1 hw2 hw3 hw4 hM;simp;omega]at hcv
 simp only[show(Kd.int .u8).sz=1 from rfl,Nat.mul_one]at hcv
 clear hC
 by_cases hcp:c=p
 ·rw[if_pos hcp,hcp,Nat.sub_self]at hcv
  go_wp2_with fail
  go_ret3
  exact⟨congrArg (fun z=>Ending.returned (.tuple #[_,.int .i64 z,_])) hw4,hb1⟩
 ·rw[if_neg hcp]at hcv
  go_wp2_with fail
  go_ret3
  exact⟨congrArg (fun z=>Ending.returned (.tuple #[_,.int .i64 z,_])) hw4,hb1⟩
theorem bget_any (a:Int) (hr:Kd.C (Kd.int .u8) w A l.length l) (hc:l.length≤c) (hb: ∀x∈l,0≤x∧x<256) (hl:l.length≤4611686018427387904) (hlim: -9223372036854775808≤lim∧lim≤9223372036854775807):
  Calls Tryz.prog 74 #[.slice A l.length c,.int .i64 a,.int .i64 lim] w fun e w'=>e= .returned (.tuple #[.string (bgetS l a lim).1,.int .i64 (bgetS l a lim).2.1,.int .i64 (bgetS l a lim).2.2])∧Below w.heap.size w w':=by
 have hg:=get_is l hb hl a 30 (by decide)
 rcases getS_cases l hb a with⟨ec,h1,h2⟩|⟨lo,n,p,ha,h1,h2,h3,h4,h5⟩
 ·rw [h1]at hg
  have e:bgetS l a lim=(⟨#[]⟩,0,ec):=by
   unfold bgetS
   rw[h1,if_pos (by show ec≠0;omega)]
  rw[e]
  exact bget_err A c l lim w a ec hr hc hg (by simp;omega)
 ·rw [h1]at hg
  obtain⟨M,hM,hM0,hM1⟩: ∃M:Int,(if lim<0 then 0 else lim)=M∧0≤M∧M≤9223372036854775807:=⟨_,rfl,by split<;>omega,by split<;>omega⟩
  obtain⟨d,hd⟩: ∃d:Nat,(l.length:Int)-(p:Int)=(d:Int):=⟨l.length-p,by omega⟩
  by_cases c5:M<(n:Int)
  ·have e:bgetS l a lim=(⟨#[]⟩,0,5):=by
    unfold bgetS
    rw[h1,hM,if_neg (by simp),if_pos c5]
   rw[e]
   exact bget_big A c l lim w a n p M hr hc hg hM (by rw[IntKind.wrap_u64];omega) (decide_eq_true c5)
  ·by_cases c2:(d:Int)<(n:Int)
   ·have e:bgetS l a lim=(⟨#[]⟩,0,2):=by
     unfold bgetS
     rw[h1,hM,if_neg (by simp),if_neg c5,if_pos (by rw[hd];exact c2)]
    rw[e]
    exact bget_short A c l lim w a n p d M hr hc hg hM (by rw[IntKind.wrap_u64];omega) (decide_eq_false c5) hd (w64 _ (by omega) (by omega)) (by rw[IntKind.wrap_u64];omega) (by omega)
   ·have e:bgetS l a lim=(strOfNums ((l.take (p+n)).drop p),((p+n:Nat):Int),0):=by
     unfold bgetS
     rw[h1,hM,if_neg (by simp),if_neg c5,if_neg (by rw[hd];exact c2)]
     simp
    rw[e]
    exact bget_ok A c l lim w a n p d (p+n) M hr hc hg hM (by rw[IntKind.wrap_u64];omega) (decide_eq_false c5) hd (w64 _ (by omega) (by omega)) (by rw[IntKind.wrap_u64];omega) (by omega) (w64 _ (by omega) (by omega)) (wsum p n (by omega)) (by omega) (by omega)
end
end Go.Proofs.YtfflenbfapgilaaGreat
namespace Go.Proofs.YtfflenbfapgilaaGreat
open Go.RowKit Go.Proofs.YtfflenbfapgilaaGreatW.PrintWords
theorem str_mid (l:List Int) (p q:Nat):(strOfNums l).extract p q=strOfNums ((l.take q).drop p):=by
 apply ByteArray.ext
 apply Array.ext'
 simp[strOfNums,ByteArray.data_extract,List.extract_eq_take_drop,List.drop_take,List.map_take,List.map_drop]
section
open Go.Proofs.YtfflenbfapgilaaGreat.GVB
variable (l:List Int) (lim:Int) (w:World)
theorem bref_err (a ec:Int) (hg:tephraref01_Get.f 30 (strOfNums l) a=some (0,0,ec)) (he:(ec !=0)=true):
  Calls Tryz.prog 50 #[.string (strOfNums l),.int .i64 a,.int .i64 lim] w fun e w'=>e= .returned (.tuple #[.string ⟨#[]⟩,.int .i64 0,.int .i64 ec])∧Below w.heap.size w w':=by
 have HG:=hQ hg
 clear hg
 go_enter Tryz.func50,Tryz.ntmps50
 go_wp2_with fail
 refine(tephraref01_Get.calls 30 _ a 0 0 ec _ HG.out).mono ?_
 rintro e w1 ⟨rfl,hd⟩
 have hb1:=hd.below
 clear hd
 go_wp2_with fail
 go_ret3
 exact⟨rfl,hb1⟩
theorem bref_big0 (a:Int) (n p d q:Nat) (hg:tephraref01_Get.f 30 (strOfNums l) a=some ((n:Int),(p:Int),0)) (h1:decide (lim<0)=true) (b5:0<n):
  Calls Tryz.prog 50 #[.string (strOfNums l),.int .i64 a,.int .i64 lim] w fun e w'=>e= .returned (.tuple #[.string ⟨#[]⟩,.int .i64 0,.int .i64 5])∧Below w.heap.size w w':=by
 have HG:=hQ hg
 have hsz:=strOfNums_size l
 clear hg
 skip
 go_enter Tryz.func50,Tryz.ntmps50
 go_wp2_with fail
 refine(tephraref01_Get.calls 30 _ a n p 0 _ HG.out).mono ?_
 rintro e w1 ⟨rfl,hd⟩
 have hb1:=hd.below
 clear hd
 go_wp2_with fail
 go_ret3
 exact⟨rfl,hb1⟩
theorem bref_ok0 (a:Int) (n p d q:Nat) (hg:tephraref01_Get.f 30 (strOfNums l) a=some ((n:Int),(p:Int),0)) (h1:decide (lim<0)=true) (b5:n=0) (hp1:p≤l.length) (hp2:l.length≤4611686018427387904):
  Calls Tryz.prog 50 #[.string (strOfNums l),.int .i64 a,.int .i64 lim] w fun e w'=>e= .returned (.tuple #[.string (strOfNums ((l.take p).drop p)),.int .i64 (p:Int),.int .i64 0])∧Below w.heap.size w w':=by
 have HG:=hQ hg
 have hsz:=strOfNums_size l
 clear hg
 subst b5
 have hx:=str_mid l p p
 go_enter Tryz.func50,Tryz.ntmps50
 go_wp2_with fail
 refine(tephraref01_Get.calls 30 _ a 0 p 0 _ HG.out).mono ?_
 rintro e w1 ⟨rfl,hd⟩
 have hb1:=hd.below
 clear hd
 go_wp2_with fail
 go_ret3
 exact⟨by first|rfl|(simp[hx];done)|(simp[hx];rfl),hb1⟩
theorem bref_big (a:Int) (n p d q:Nat) (hg:tephraref01_Get.f 30 (strOfNums l) a=some ((n:Int),(p:Int),0)) (h1:decide (lim<0)=false) (hw:IntKind.u64.wrap lim=lim) (b5:decide (lim<(n:Int))=true):
  Calls Tryz.prog 50 #[.string (strOfNums l),.int .i64 a,.int .i64 lim] w fun e w'=>e= .returned (.tuple #[.string ⟨#[]⟩,.int .i64 0,.int .i64 5])∧Below w.heap.size w w':=by
 have HG:=hQ hg
 have hsz:=strOfNums_size l
 clear hg
 skip
 go_enter Tryz.func50,Tryz.ntmps50
 go_wp2_with fail
 refine(tephraref01_Get.calls 30 _ a n p 0 _ HG.out).mono ?_
 rintro e w1 ⟨rfl,hd⟩
 have hb1:=hd.below
 clear hd
 go_wp2_with fail
 go_ret3
 exact⟨rfl,hb1⟩
theorem bref_short1 (a:Int) (n p d q:Nat) (hg:tephraref01_Get.f 30 (strOfNums l) a=some ((n:Int),(p:Int),0)) (h1:decide (lim<0)=false) (hw:IntKind.u64.wrap lim=lim) (b5:decide (lim<(n:Int))=false) (hws:IntKind.u64.wrap (l.length:Int)=(l.length:Int)) (b2:l.length<n):
  Calls Tryz.prog 50 #[.string (strOfNums l),.int .i64 a,.int .i64 lim] w fun e w'=>e= .returned (.tuple #[.string ⟨#[]⟩,.int .i64 0,.int .i64 2])∧Below w.heap.size w w':=by
 have HG:=hQ hg
 have hsz:=strOfNums_size l
 clear hg
 skip
 go_enter Tryz.func50,Tryz.ntmps50
 go_wp2_with fail
 refine(tephraref01_Get.calls 30 _ a n p 0 _ HG.out).mono ?_
 rintro e w1 ⟨rfl,hd⟩
 have hb1:=hd.below
 clear hd
 go_wp2_with fail
 go_ret3
 exact⟨rfl,hb1⟩
theorem bref_short2 (a:Int) (n p d q:Nat) (hg:tephraref01_Get.f 30 (strOfNums l) a=some ((n:Int),(p:Int),0)) (h1:decide (lim<0)=false) (hw:IntKind.u64.wrap lim=lim) (b5:decide (lim<(n:Int))=false) (hws:IntKind.u64.wrap (l.length:Int)=(l.length:Int)) (b2: ¬l.length<n) (b3:l.length<q) (hw3:wrap64 (n:Int)=(n:Int)) (hw4:wrap64 ((p:Int)+(n:Int))=(q:Int)):
  Calls Tryz.prog 50 #[.string (strOfNums l),.int .i64 a,.int .i64 lim] w fun e w'=>e= .returned (.tuple #[.string ⟨#[]⟩,.int .i64 0,.int .i64 2])∧Below w.heap.size w w':=by
 have HG:=hQ hg
 have hsz:=strOfNums_size l
 clear hg
 skip
 go_enter Tryz.func50,Tryz.ntmps50
 go_wp2_with fail
 refine(tephraref01_Get.calls 30 _ a n p 0 _ HG.out).mono ?_
 rintro e w1 ⟨rfl,hd⟩
 have hb1:=hd.below
 clear hd
 go_wp2_with fail
 go_ret3
 exact⟨rfl,hb1⟩
theorem bref_ok (a:Int) (n p d q:Nat) (hg:tephraref01_Get.f 30 (strOfNums l) a=some ((n:Int),(p:Int),0)) (h1:decide (lim<0)=false) (hw:IntKind.u64.wrap lim=lim) (b5:decide (lim<(n:Int))=false) (hws:IntKind.u64.wrap (l.length:Int)=(l.length:Int)) (b2: ¬l.length<n) (b3: ¬l.length<q) (hw3:wrap64 (n:Int)=(n:Int)) (hw4:wrap64 ((p:Int)+(n:Int))=(q:Int)) (hq1:p≤q) (hq2:q≤l.length):
  Calls Tryz.prog 50 #[.string (strOfNums l),.int .i64 a,.int .i64 lim] w fun e w'=>e= .returned (.tuple #[.string (strOfNums ((l.take q).drop p)),.int .i64 (q:Int),.int .i64 0])∧Below w.heap.size w w':=by
 have HG:=hQ hg
 have hsz:=strOfNums_size l
 clear hg
 have hx:=str_mid l p q
 go_enter Tryz.func50,Tryz.ntmps50
 go_wp2_with fail
 refine(tephraref01_Get.calls 30 _ a n p 0 _ HG.out).mono ?_
 rintro e w1 ⟨rfl,hd⟩
 have hb1:=hd.below
 clear hd
 go_wp2_with fail
 go_ret3
 exact⟨by first|rfl|(simp[hx,hw4];done),hb1⟩
theorem bref_any (a:Int) (hb: ∀x∈l,0≤x∧x<256) (hl:l.length≤1000000000) (hlim: -9223372036854775808≤lim∧lim≤9223372036854775807):
  Calls Tryz.prog 50 #[.string (strOfNums l),.int .i64 a,.int .i64 lim] w fun e w'=>e= .returned (.tuple #[.string (bgetS l a lim).1,.int .i64 (bgetS l a lim).2.1,.int .i64 (bgetS l a lim).2.2])∧Below w.heap.size w w':=by
 have hg:=ref_is l hb (by omega) a 30 (by decide)
 rcases getS_cases l hb a with⟨ec,h1,h2⟩|⟨lo,n,p,ha,h1,h2,h3,h4,h5⟩
 ·rw [h1]at hg
  have e:bgetS l a lim=(⟨#[]⟩,0,ec):=by
   unfold bgetS
   rw[h1,if_pos (by show ec≠0;omega)]
  rw[e]
  exact bref_err l lim w a ec hg (by simp;omega)
 ·rw [h1]at hg
  obtain⟨M,hM,hM0,hM1⟩: ∃M:Int,(if lim<0 then 0 else lim)=M∧0≤M∧M≤9223372036854775807:=⟨_,rfl,by split<;>omega,by split<;>omega⟩
  obtain⟨d,hd⟩: ∃d:Nat,(l.length:Int)-(p:Int)=(d:Int):=⟨l.length-p,by omega⟩
  have hML:lim<0∧M=0∨¬lim<0∧M=lim:=by
   by_cases h0:lim<0
   ·rw[if_pos h0]at hM;exact .inl ⟨h0,hM.symm⟩
   ·rw[if_neg h0]at hM;exact .inr ⟨h0,hM.symm⟩
  by_cases c5:M<(n:Int)
  ·have e:bgetS l a lim=(⟨#[]⟩,0,5):=by
    unfold bgetS
    rw[h1,hM,if_neg (by simp),if_pos c5]
   rw[e]
   rcases hML with⟨h0,hm⟩|⟨h0,hm⟩
   ·exact bref_big0 l lim w a n p 0 0 hg (decide_eq_true h0) (by omega)
   ·exact bref_big l lim w a n p 0 0 hg (decide_eq_false h0) (by rw[IntKind.wrap_u64];omega) (decide_eq_true (by omega))
  ·by_cases c2:(d:Int)<(n:Int)
   ·have e:bgetS l a lim=(⟨#[]⟩,0,2):=by
     unfold bgetS
     rw[h1,hM,if_neg (by simp),if_neg c5,if_pos (by rw[hd];exact c2)]
    rw[e]
    rcases hML with⟨h0,hm⟩|⟨h0,hm⟩
    ·omega
    ·by_cases c3:l.length<n
     ·exact bref_short1 l lim w a n p 0 0 hg (decide_eq_false h0) (by rw[IntKind.wrap_u64];omega) (decide_eq_false (by omega)) (by rw[IntKind.wrap_u64];omega) c3
     ·exact bref_short2 l lim w a n p 0 (p+n) hg (decide_eq_false h0) (by rw[IntKind.wrap_u64];omega) (decide_eq_false (by omega)) (by rw[IntKind.wrap_u64];omega) c3 (by omega) (w64 _ (by omega) (by omega)) (wsum p n (by omega))
   ·have e:bgetS l a lim=(strOfNums ((l.take (p+n)).drop p),((p+n:Nat):Int),0):=by
     unfold bgetS
     rw[h1,hM,if_neg (by simp),if_neg c5,if_neg (by rw[hd];exact c2)]
     simp
    rw[e]
    rcases hML with⟨h0,hm⟩|⟨h0,hm⟩
    ·have hn0:n=0:=by omega
     subst hn0
     exact bref_ok0 l lim w a 0 p 0 0 hg (decide_eq_true h0) rfl h3 (by omega)
    ·exact bref_ok l lim w a n p 0 (p+n) hg (decide_eq_false h0) (by rw[IntKind.wrap_u64];omega) (decide_eq_false (by omega)) (by rw[IntKind.wrap_u64];omega) (by omega) (by omega) (w64 _ (by omega) (by omega)) (wsum p n (by omega)) (by omega) (by omega)
end
theorem bgetS_cases (l:List Int) (hb: ∀x∈l,0≤x∧x<256) (a lim:Int):(∃e:Int,bgetS l a lim=(⟨#[]⟩,0,e)∧(e=1∨e=2∨e=3∨e=5))∨
  ∃lo p q:Nat,a=(lo:Int)∧bgetS l a lim=(strOfNums ((l.take q).drop p),(q:Int),0)∧lo<p∧p≤q∧q≤l.length∧((q-p:Nat):Int)≤(if lim<0 then 0 else lim):=by
 rcases getS_cases l hb a with⟨ec,h1,h2⟩|⟨lo,n,p,ha,h1,h2,h3,h4,h5⟩
 ·refine .inl ⟨ec, ?_, ?_⟩
  ·unfold bgetS;rw[h1,if_pos (by show ec≠0;omega)]
  ·omega
 ·obtain ⟨M,hM⟩: ∃M:Int,(if lim<0 then 0 else lim)=M:=⟨_,rfl⟩
  have hp:lo<p:=by
   have:=congrArg List.length h5
   rw[List.length_drop,List.length_take]at this
   have h6:0<(ints (vb n)).length:=by
    rw[show(ints (vb n)).length=(vb n).length by simp[ints]]
    exact List.length_pos_iff.2 (vb_ne n)
   omega
  by_cases c5:M<(n:Int)
  ·refine .inl ⟨5, ?_,by omega⟩
   unfold bgetS;rw[h1,hM,if_neg (by simp),if_pos c5]
  ·by_cases c2:(l.length:Int)-(p:Int)<(n:Int)
   ·refine .inl ⟨2, ?_,by omega⟩
    unfold bgetS;rw[h1,hM,if_neg (by simp),if_neg c5,if_pos c2]
   ·refine .inr ⟨lo,p,p+n,ha, ?_,hp,by omega,by omega, ?_⟩
    ·unfold bgetS;rw[h1,hM,if_neg (by simp),if_neg c5,if_neg c2];simp
    ·rw[hM,show p+n-p=n by omega];omega
theorem bytes_str (s:ByteArray):strOfNums (bytesOf s)=s:=by
 apply ByteArray.ext
 apply Array.ext'
 simp[strOfNums,bytesOf,Function.comp_def]
theorem blob_str (s:ByteArray):strOfNums (blob s)=strOfNums (ints (vb s.size))++s:=by
 unfold blob
 rw[strOfNums_app,bytes_str]
theorem blobs_one (s:ByteArray):blobs [s]=blob s:=by
 show blob s++[]=_
 rw[List.append_nil]
theorem rbput_any (s:ByteArray) (hs:s.size≤1000000000) (w:World):
  Calls Tryz.prog 86 #[.string s] w fun e w'=>e= .returned (.string (strOfNums (blob s)))∧Below w.heap.size w w':=by
 have hw:IntKind.u64.wrap (s.size:Int)=(s.size:Int):=by rw[IntKind.wrap_u64];omega
 have hv:=vb_len10 s.size (by omega)
 have HV:=hQ (show s.size<18446744073709551616 by omega)
 have hz:(strOfNums (ints (vb s.size))).size+s.size≤9223372036854775807:=by rw[strOfNums_size];simp[ints];omega
 clear hv
 go_enter Tryz.func86,Tryz.ntmps86
 go_wp2_with fail
 refine(refput_any s.size HV.out _).mono ?_
 rintro e w1 ⟨rfl,hb⟩
 go_wp2_with fail
 go_ret
 exact⟨by rw[blob_str];rfl,hb⟩
theorem C_block_str (W:World) (b:Nat) (e:TypeId) (fr:Nat×Nat) (xs:List ByteArray) (h:W.heap[b]? =some (.cells (xs.map Value.string).toArray e fr)) (hx:xs.length≤9223372036854775807):
  Kd.C Kd.string W (some ⟨b,0,none⟩) xs.length xs:=by
 refine⟨rfl,hx,fun _=>⟨_,rfl,fun j p hj=>⟨[.string p],rfl,rfl,fun i u hu=> ?_⟩⟩⟩
 match i with
 | 0=>
  have e0:(⟨b,0,none⟩:Addr).add (j*Kd.string.sz+0)=⟨b,j,none⟩:=by simp[Addr.add,Kd.string,Kd.scalar];omega
  rw[e0]
  simp only[World.cell?,h,Option.isSome_none,Bool.false_eq_true,if_false]
  simp only[List.getElem?_toArray,List.getElem?_map,hj,Option.map_some]
  simpa using hu
 |i+1=>simp at hu
theorem bput_any (A:Option Addr) (c:Nat) (l:List Int) (s:ByteArray) (w:World) (hr:Kd.C (Kd.int .u8) w A l.length l) (hc:l.length≤c) (hl:l.length+(blob s).length≤140737488355000):
  Calls Tryz.prog 40 #[.slice A l.length c,.string s] w fun e w'=>∃v:Value,e= .returned v∧Kd.R (Kd.int .u8) 5 w' w.heap.size (fun _=>True) v (l++blob s)∧Below w.heap.size w w':=by
 have HC:=hQ hr
 have HL:=hQ hc
 have HZ:=hQ hl
 clear hr hc hl
 go_enter Tryz.func40,Tryz.ntmps40
 go_wp2_with fail
 have hb0:=(Below.refl w.heap.size w).alloc (Nat.le_refl _) (.cells #[.string s] 9)
 have hS:=C_block_str (w.alloc (.cells #[.string s] 9)) w.heap.size 9 (0,0) [s] (heap_new _ _) (by simp)
 refine(list_any A c l (some ⟨w.heap.size,0,none⟩) 1 [s] _ (Kd.C_below HC.out hb0) HL.out hS (Nat.le_refl _) (by rw[blobs_one];exact HZ.out)).mono ?_
 rintro e w1 ⟨v,rfl,ho,hb1⟩
 rw[blobs_one]at ho
 have HO:=hQ (Kd.R_lower ho hb0.size)
 have hb2:=hb0.trans (hb1.mono hb0.size)
 clear ho hb0 hb1 hS
 go_wp2_with fail
 go_ret
 exact⟨_,rfl,HO.out,hb2⟩
end Go.Proofs.YtfflenbfapgilaaGreat
