/- Texts laid as one by shake.py, cut to what the claim needs: CrcA. (Names that begin with W and the print's groups (G..x, G..z): laid by the kit's print, cut.) -/
set_option linter.unusedVariables false
set_option linter.unusedSimpArgs false
namespace Go.Proofs.YtfflenbfapgilaaGreat.Crc
def poly:Nat:=3988292384
def st (c:Nat):Nat:=(c/2)^^^(poly*(c%2))
theorem xor_mod2 (a b:Nat):(a^^^b)%2=(a%2)^^^(b%2):=by
 have:=Nat.xor_mod_two_pow (a:=a) (b:=b) (n:=1)
 simpa using this
theorem xor_div2 (a b:Nat):(a^^^b)/2=(a/2)^^^(b/2):=by
 have:=Nat.xor_div_two_pow (a:=a) (b:=b) (n:=1)
 simpa using this
theorem mul_xor_bit (p a b:Nat) (ha:a<2) (hb:b<2):p*(a^^^b)=(p*a)^^^(p*b):=by
 have h1:a=0∨a=1:=by omega
 have h2:b=0∨b=1:=by omega
 rcases h1 with rfl|rfl<;>rcases h2 with rfl|rfl<;>simp
theorem xor4 (a b c d:Nat):(a^^^b)^^^(c^^^d)=(a^^^c)^^^(b^^^d):=by
 rw[Nat.xor_assoc,Nat.xor_assoc,←Nat.xor_assoc b c d,Nat.xor_comm b c,Nat.xor_assoc c b d]
theorem st_xor (a b:Nat):st (a^^^b)=st a^^^st b:=by
 unfold st
 rw[xor_mod2,xor_div2,mul_xor_bit _ _ _ (by omega) (by omega),xor4]
theorem st_even (k:Nat):st (2*k)=k:=by
 unfold st
 rw[show 2*k/2=k by omega,show 2*k%2=0 by omega];simp
theorem st_lt (c:Nat) (h:c<4294967296):st c<4294967296:=by
 unfold st
 refine Nat.xor_lt_two_pow (n:=32) (by omega) ?_
 unfold poly;have:=Nat.mod_lt c (show 2>0 by omega);omega
def stn:Nat→Nat→Nat
 | 0,c=>c
 |n+1,c=>stn n (st c)
theorem stn_xor (n:Nat): ∀a b,stn n (a^^^b)=stn n a^^^stn n b:=by
 induction n with
 |zero=>intro a b;rfl
 |succ n ih=>intro a b;simp only[stn];rw[st_xor,ih]
theorem stn_lt (n:Nat): ∀c,c<4294967296→stn n c<4294967296:=by
 induction n with
 |zero=>intro c h;exact h
 |succ n ih=>intro c h;exact ih _ (st_lt c h)
theorem stn_add (m n:Nat): ∀c,stn (m+n) c=stn n (stn m c):=by
 induction m with
 |zero=>intro c;simp[stn]
 |succ m ih=>intro c;rw[Nat.succ_add];simp only[stn];rw[ih]
theorem stn_mul (n:Nat): ∀k,stn n (2^n*k)=k:=by
 induction n with
 |zero=>intro k;simp[stn]
 |succ n ih=>
  intro k
  simp only[stn]
  rw[show 2^(n+1)*k=2*(2^n*k)by rw[Nat.pow_succ];rw[Nat.mul_comm (2^n) 2,Nat.mul_assoc],st_even,ih]
theorem split_xor (c n:Nat):c=(2^n*(c/2^n))^^^(c%2^n):=by
 apply Nat.eq_of_testBit_eq
 intro i
 rw[Nat.testBit_xor,Nat.testBit_mod_two_pow,Nat.testBit_two_pow_mul,Nat.testBit_div_two_pow]
 by_cases h:i<n
 ·simp[h,Nat.not_le.2 h]
 ·simp[h,Nat.not_lt.1 h]
theorem stn_split (n c:Nat):stn n c=(c/2^n)^^^stn n (c%2^n):=by
 conv=>lhs;rw[split_xor c n]
 rw[stn_xor,stn_mul]
theorem half (c x:Nat):(c/16)^^^stn 4 ((c^^^x)%16)=stn 4 (c^^^x)^^^(x/16):=by
 have h:=stn_split 4 (c^^^x)
 have hd:(c^^^x)/16=(c/16)^^^(x/16):=by
  have:=Nat.xor_div_two_pow (a:=c) (b:=x) (n:=4);simpa using this
 simp only[show(2:Nat)^4=16 from rfl]at h
 rw[h,hd]
 rw[Nat.xor_assoc (c/16),Nat.xor_assoc (c/16),Nat.xor_comm (x/16),Nat.xor_assoc,Nat.xor_self,Nat.xor_zero]
def byte (c x:Nat):Nat:=stn 8 (c^^^x)
theorem byte_halves (c x:Nat) (hx:x<256):
  let c1:=(c/16)^^^stn 4 ((c^^^x)%16)
  (c1/16)^^^stn 4 ((c1^^^(x/16))%16)=byte c x:=by
 intro c1
 have h1:c1=stn 4 (c^^^x)^^^(x/16):=half c x
 have h2:=half c1 (x/16)
 rw[h2,show x/16/16=0 by omega,Nat.xor_zero,h1,Nat.xor_assoc,Nat.xor_self,Nat.xor_zero]
 unfold byte
 rw[show 8=4+4 from rfl,stn_add]
def run (c:Nat) (l:List Nat):Nat:=l.foldl byte c
def top:Nat:=4294967295
def sum (l:List Nat):Nat:=top^^^run top l
theorem byte_lt (c x:Nat) (hc:c<4294967296) (hx:x<256):byte c x<4294967296:=
 stn_lt 8 _ (Nat.xor_lt_two_pow (n:=32) hc (by omega))
theorem run_append (c:Nat) (l m:List Nat):run c (l++m)=run (run c l) m:=by simp[run]
theorem run_lt (l:List Nat): ∀c,c<4294967296→(∀x∈l,x<256)→run c l<4294967296:=by
 induction l with
 |nil=>intro c h _;exact h
 |cons x l ih=>intro c h hl;exact ih _ (byte_lt c x h (hl x (by simp))) (fun y hy=>hl y (by simp[hy]))
theorem st_bit (c b:Nat) (hb:b<2):st (c^^^b)=if c%2≠b then(c/2)^^^poly else c/2:=by
 unfold st
 rw[xor_mod2,xor_div2,show b/2=0 by omega,Nat.xor_zero,show b%2=b by omega]
 have h1:c%2=0∨c%2=1:=by omega
 have h2:b=0∨b=1:=by omega
 rcases h1 with h1|h1<;>rcases h2 with rfl|rfl<;>simp[h1]
theorem st_peel (c x:Nat):st (c^^^x)=st (c^^^(x%2))^^^(x/2):=by
 have hx:x=(x%2)^^^(2*(x/2)):=by
  have:=split_xor x 1
  rw[Nat.xor_comm]at this;simpa using this
 conv=>lhs;rw[hx,←Nat.xor_assoc,st_xor,st_even]
def bitStep (c b:Nat):Nat:=if c%2≠b then(c/2)^^^poly else c/2
def bitsFrom:Nat→Nat→Nat→Nat
 | 0,c,_=>c
 |n+1,c,x=>bitsFrom n (bitStep c (x%2)) (x/2)
theorem bitsFrom_eq (n:Nat): ∀c x,x<2^n→bitsFrom n c x=stn n (c^^^x):=by
 induction n with
 |zero=>
  intro c x hx;have:x=0:=by simpa using hx
  subst this;simp[bitsFrom,stn]
 |succ n ih=>
  intro c x hx
  simp only[bitsFrom,stn]
  rw[ih _ _ (by rw[Nat.pow_succ]at hx;omega),st_peel c x,st_bit _ _ (by omega)];rfl
def le:List Nat→Nat
 | []=>0
 |x::l=>x+256*le l
def bytes (v:Nat):List Nat:=[v%256,v/256%256,v/65536%256,v/16777216%256]
def read (l:List Nat):Nat:=le (l.take 4)
theorem sum_lt (l:List Nat) (h: ∀x∈l,x<256):sum l<4294967296:=
 Nat.xor_lt_two_pow (n:=32) (by unfold top;omega) (run_lt l top (by unfold top;omega) h)
end Go.Proofs.YtfflenbfapgilaaGreat.Crc
