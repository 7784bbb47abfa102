/- NodeB NodeC NodeD -/
import Derived.Test.YtplhdjdkobddnaaGreatTr3
set_option linter.unusedVariables false
set_option maxRecDepth 100000
set_option maxHeartbeats 40000000
namespace Go.Proofs.YtplhdjdkobddnaaGreat
section
open Go.RowKit
def padN (l:List Nat):List Nat:=l++List.replicate (16 - l.length) 0
def sealW (x s:Nat):Nat:=clearS x ||| (s <<< 32)
def sealN (l:List Nat):List Nat:=(padN l).set 0 (sealW ((padN l)[0]?.getD 0) (sumN (padN l)))
theorem padN_length (l:List Nat) (h:l.length≤16):(padN l).length=16:=by simp[padN];omega
theorem replicate_uvB (n:Nat):(madeCells #[Value.int IntKind.u64 0] n).toList=uv (List.replicate n 0):=by
 rw[toList_madeCells_one];simp[uv]
theorem own_exact {w:World} {base g n:Nat} {e:TypeId} {xs:List Value} (h:w.ownsRow base e 1 (.slice (some ⟨g,0,none⟩) n n) n xs):w.heap[g]? =some (.cells xs.toArray e (0,0)):=by
 rcases h.2 with ⟨h1,_⟩| ⟨g',cap,cur,hv,hb,hh,_,_,hs,ht⟩
 ·cases h1
 ·injection hv with h1 h2 h3
  injection h1 with h1
  injection h1 with h1
  subst h1 h3
  rw[hh,←ht,List.take_of_length_le (by rw[Array.length_toList,hs];exact Nat.le_refl _)]
theorem own_of_heap {w:World} {base g n:Nat} {e:TypeId} {xs:List Value} (h:w.heap[g]? =some (.cells xs.toArray e (0,0))) (hl:xs.length=n) (hb:base≤g) (hm:n≤maxLen):w.ownsRow base e 1 (.slice (some ⟨g,0,none⟩) n n) n xs:=
 ⟨by rw[hl,Nat.mul_one],.inr ⟨g,n,xs.toArray,rfl,hb,h,Nat.le_refl _,hm,by simp[hl],by rw[Nat.mul_one];exact List.take_of_length_le (by simp[hl])⟩⟩
theorem splice_pad (l:List Nat) (h:l.length≤16):splice (uv (List.replicate 16 0)) 0 (uv l)=uv (padN l):=by
 unfold splice padN
 rw[uv_append,List.take_zero,List.nil_append,uv_length,Nat.zero_add]
 congr 1
 unfold uv
 rw[List.map_replicate,List.drop_replicate,List.map_replicate]
theorem copy_src {w:World} {A:Option Addr} {vs:List Value} {g:Nat} (h:Reads w A vs):0<vs.length→(some ⟨g,0,none⟩ :Option Addr)=some ⟨g,0,none⟩∧∃ad,A=some ad∧∀j v,vs[j]? =some v→w.cell? (ad.add j)=some v:=by
 intro hp
 obtain ⟨b,off,rfl,_,hc⟩:=h (by intro e;rw[e] at hp;exact absurd hp (by simp))
 exact ⟨rfl,_,rfl,fun j v hv=>by rw[Addr.add_mid];exact hc j v hv⟩
theorem seal_bits (x s:Nat) (hx:x<18446744073709551616) (hs:s<65536):bits BinOp.or IntKind.u64 ((clearS x:Nat):Int) (IntKind.u64.wrap ((s:Int) * 4294967296))=((sealW x s:Nat):Int):=by
 have hs32:s <<< 32<18446744073709551616:=by rw[Nat.shiftLeft_eq];omega
 have e:IntKind.u64.wrap ((s:Int) * 4294967296)=((s <<< 32:Nat):Int):=by
  rw[IntKind.wrap_u64,Nat.shiftLeft_eq];omega
 rw[e,u64_or_nat _ _ (clearS_lt x hx) hs32]
 rfl
theorem frozen_below {B b i:Nat} {w w':World} (h:Below B w w') (hb:b<B):w'.frozen? ⟨b,i,none⟩=w.frozen? ⟨b,i,none⟩:=by
 unfold World.frozen?
 rw[h.block b hb]
theorem seal_any (A:Option Addr) (c n:Nat) (l:List Nat) (w:World) (hn:l.length=n) (hA:Reads w A (uv l)) (hl:W64 l) (hlen:n≤16) :
  Calls Tryz.prog 112 #[.slice A n c] w fun e w'=>∃g,e=.returned (.slice (some ⟨g,0,none⟩) 16 16)∧w'.ownsRow w.heap.size 39 1 (.slice (some ⟨g,0,none⟩) 16 16) 16 (uv (sealN l))∧Below w.heap.size w w':=by
 obtain ⟨i0,hi0,hz0,hz1,hz2⟩:=info_parts u64_info
 go_enter Tryz.func112,Tryz.ntmps112
 go_wp2_with (at_make;refine wpList_make_full _ rfl _ _ _ rfl w.heap.size 39 i0 _ 1 Tryz.underlying27 hi0 hz0 hz1 .i64 .i64 _ _ 16 rfl rfl rfl rfl ?_ ?_ ?_ ?_)
 ·rw[hz2];omega
 ·simp only[maxLen];omega
 ·exact Nat.le_refl _
 intro w1 hown hg
 have hb:Below w.heap.size w w1:=(Below.refl _ w).grown hg (Nat.le_refl _) (by intro k hk;cases hk)
 have hrow:w1.heap[w.heap.size]? =some (.cells (uv (List.replicate 16 0)).toArray 39 (0,0)):=by
  rw[replicate_uvB] at hown
  exact own_exact hown
 have rA:=hA.keep hb
 have HR:=Hi hrow
 have HA:=Hi rA
 have HN:=Hi hn
 clear hA rA hown hg hrow hn
 go_wp2_with ((with_reducible refine wpList_copy_splice (o:=⟨some 7,_,_,_,_,_⟩) rfl (.tmp 5) (.tmp 6) 27 27 rfl 39 Tryz.underlying27 (by rw[hi0,Option.map_some,hz1]) (some ⟨w.heap.size,0,none⟩) A 16 16 n c rfl rfl w.heap.size 0 _ 39 HR.out (uv l) (by rw[uv_length,HN.out];exact (Nat.min_eq_left hlen).symm) (copy_src HA.out) (by simp[uv];rw[HN.out];omega) (uv_one l) w.heap.size w hb (Nat.le_refl _) ?_);intro w2 hrow2 hb2)
 have hrow3:w2.heap[w.heap.size]? =some (.cells (uv (padN l)).toArray 39 (0,0)):=by
  rw[←splice_pad l (by rw[HN.out];exact hlen)]
  exact hrow2.out
 have hpl:=padN_length l (by rw[HN.out];exact hlen)
 have hpw:W64 (padN l):=by
  intro x hx
  rcases List.mem_append.1 hx with h|h
  ·exact hl x h
  ·have:=List.eq_of_mem_replicate h;omega
 have hown3:w2.ownsRow w.heap.size 39 1 (.slice (some ⟨w.heap.size,0,none⟩) 16 16) 16 (uv (padN l)):=own_of_heap hrow3 (by rw[uv_length];exact hpl) (Nat.le_refl _) (by simp only[maxLen];omega)
 have hx:=hpw.at 0
 have HSN:Hid (sealN l=(padN l).set 0 (sealW ((padN l)[0]?.getD 0) (sumN (padN l)))):=rfl
 generalize padN l=P at hown3 hpl hpw hx HSN
 obtain ⟨x,ex⟩ :∃x,P[0]?.getD 0=x:=⟨_,rfl⟩
 rw[ex] at hx HSN
 have hc:=hown3.cellAt 0 (by omega)
 rw[uv_at _ _ (by omega),ex] at hc
 have hf:=hown3.frozenAt 0
 have hcx:=clearS_bits x hx
 have rP:=Reads.of_own hown3
 have HO:=Hi hown3
 have HP:=Hi hpl
 have hlt:w.heap.size<w2.heap.size:=(hown3.lt _ rfl).2
 clear hrow2 hrow3 ex HR HA hb hl HN hown3 hpl
 have hss:=sumN_lt P
 obtain ⟨s,es⟩ :∃s,sumN P=s:=⟨_,rfl⟩
 have HSUM:=Hi (fun W hA=>sum_any (some ⟨w.heap.size,0,none⟩) 16 16 P W HP.out hA hpw (by omega) (by omega))
 rw[es] at HSUM hss HSN
 clear es
 go_region_with (first
  |(go_at_call 110;refine (HSUM.out w2.drew rP).mono ?_;rintro e w3 ⟨rfl,hb3⟩;have hc3:=(hb3.cell (p:=⟨w.heap.size,0,none⟩) hlt).trans hc;have hf3:=(frozen_below hb3 hlt).trans hf))
 all_goals
  have hv:=seal_bits x s hx hss
  rw[hv]
  have hown4:=World.ownsRow.kept HO.out (row:=none) ⟨hb3.os,hb3.tape,hb3.output,hb3.size,fun k hk _=>hb3.block k hk⟩ (.inr (by simp[Value.ownBlock]))
  have h5:=(hown4.stored 0 (.int .u64 ((sealW x s:Nat):Int))).1
  rw[uv_set,←HSN.out] at h5
  have hb5:=(hb2.drew.trans (hb3.mono hb2.size)).setCell (p:=⟨w.heap.size,0,none⟩) (Nat.le_refl _) (.int .u64 ((sealW x s:Nat):Int))
  have H5:=Hi h5
  clear hown4 h5
  go_wp2_with fail
  go_ret
  exact ⟨_,rfl,H5.out,hb5⟩
theorem refSeal_any (A:Option Addr) (c n:Nat) (l:List Nat) (w:World) (hn:l.length=n) (hA:Reads w A (uv l)) (hl:W64 l) (hlen:n≤16) :
  Calls Tryz.prog 46 #[.slice A n c] w fun e w'=>∃g,e=.returned (.slice (some ⟨g,0,none⟩) 16 16)∧w'.ownsRow w.heap.size 39 1 (.slice (some ⟨g,0,none⟩) 16 16) 16 (uv (sealN l))∧Below w.heap.size w w':=by
 obtain ⟨i0,hi0,hz0,hz1,hz2⟩:=info_parts u64_info
 go_enter Tryz.func46,Tryz.ntmps46
 go_wp2_with (at_make;refine wpList_make_full _ rfl _ _ _ rfl w.heap.size 39 i0 _ 1 Tryz.underlying27 hi0 hz0 hz1 .i64 .i64 _ _ 16 rfl rfl rfl rfl ?_ ?_ ?_ ?_)
 ·rw[hz2];omega
 ·simp only[maxLen];omega
 ·exact Nat.le_refl _
 intro w1 hown hg
 have hb:Below w.heap.size w w1:=(Below.refl _ w).grown hg (Nat.le_refl _) (by intro k hk;cases hk)
 have hrow:w1.heap[w.heap.size]? =some (.cells (uv (List.replicate 16 0)).toArray 39 (0,0)):=by
  rw[replicate_uvB] at hown
  exact own_exact hown
 have rA:=hA.keep hb
 have HR:=Hi hrow
 have HA:=Hi rA
 have HN:=Hi hn
 clear hA rA hown hg hrow hn
 go_wp2_with ((with_reducible refine wpList_copy_splice (o:=⟨some 7,_,_,_,_,_⟩) rfl (.tmp 5) (.tmp 6) 27 27 rfl 39 Tryz.underlying27 (by rw[hi0,Option.map_some,hz1]) (some ⟨w.heap.size,0,none⟩) A 16 16 n c rfl rfl w.heap.size 0 _ 39 HR.out (uv l) (by rw[uv_length,HN.out];exact (Nat.min_eq_left hlen).symm) (copy_src HA.out) (by simp[uv];rw[HN.out];omega) (uv_one l) w.heap.size w hb (Nat.le_refl _) ?_);intro w2 hrow2 hb2)
 have hrow3:w2.heap[w.heap.size]? =some (.cells (uv (padN l)).toArray 39 (0,0)):=by
  rw[←splice_pad l (by rw[HN.out];exact hlen)]
  exact hrow2.out
 have hpl:=padN_length l (by rw[HN.out];exact hlen)
 have hpw:W64 (padN l):=by
  intro x hx
  rcases List.mem_append.1 hx with h|h
  ·exact hl x h
  ·have:=List.eq_of_mem_replicate h;omega
 have hown3:w2.ownsRow w.heap.size 39 1 (.slice (some ⟨w.heap.size,0,none⟩) 16 16) 16 (uv (padN l)):=own_of_heap hrow3 (by rw[uv_length];exact hpl) (Nat.le_refl _) (by simp only[maxLen];omega)
 have hx:=hpw.at 0
 have HSN:Hid (sealN l=(padN l).set 0 (sealW ((padN l)[0]?.getD 0) (sumN (padN l)))):=rfl
 generalize padN l=P at hown3 hpl hpw hx HSN
 obtain ⟨x,ex⟩ :∃x,P[0]?.getD 0=x:=⟨_,rfl⟩
 rw[ex] at hx HSN
 have hc:=hown3.cellAt 0 (by omega)
 rw[uv_at _ _ (by omega),ex] at hc
 have hf:=hown3.frozenAt 0
 have hcx:=clearS_bits x hx
 have rP:=Reads.of_own hown3
 have HO:=Hi hown3
 have HP:=Hi hpl
 have hlt:w.heap.size<w2.heap.size:=(hown3.lt _ rfl).2
 clear hrow2 hrow3 ex HR HA hb hl HN hown3 hpl
 have hss:=sumN_lt P
 obtain ⟨s,es⟩ :∃s,sumN P=s:=⟨_,rfl⟩
 have HSUM:=Hi (fun W hA=>refSum_any (some ⟨w.heap.size,0,none⟩) 16 16 P W HP.out hA hpw (by omega) (by omega))
 rw[es] at HSUM hss HSN
 clear es
 go_region_with (first
  |(go_at_call 99;refine (HSUM.out w2.drew rP).mono ?_;rintro e w3 ⟨rfl,hb3⟩;have hc3:=(hb3.cell (p:=⟨w.heap.size,0,none⟩) hlt).trans hc;have hf3:=(frozen_below hb3 hlt).trans hf))
 all_goals
  have hv:=seal_bits x s hx hss
  rw[hv]
  have hown4:=World.ownsRow.kept HO.out (row:=none) ⟨hb3.os,hb3.tape,hb3.output,hb3.size,fun k hk _=>hb3.block k hk⟩ (.inr (by simp[Value.ownBlock]))
  have h5:=(hown4.stored 0 (.int .u64 ((sealW x s:Nat):Int))).1
  rw[uv_set,←HSN.out] at h5
  have hb5:=(hb2.drew.trans (hb3.mono hb2.size)).setCell (p:=⟨w.heap.size,0,none⟩) (Nat.le_refl _) (.int .u64 ((sealW x s:Nat):Int))
  have H5:=Hi h5
  clear hown4 h5
  go_wp2_with fail
  go_ret
  exact ⟨_,rfl,H5.out,hb5⟩
end
section
open Go.RowKit
def hdN (k l c b:Int):Nat:=(k % 16).toNat+(l % 16).toNat * 16+(c % 16).toNat * 256+(b % 1048576).toNat * 4096+5572078638964146176
theorem low_bits (x:Int) (n:Nat) (hn:n≤64):bits BinOp.and IntKind.u64 (IntKind.u64.wrap x) ((2 ^ n - 1:Nat):Int)=((x % ((2 ^ n:Nat):Int)).toNat:Int):=by
 obtain ⟨y,e,hy⟩:=any_u64 x
 have h2:2 ^ n≤18446744073709551616:=by
  have:=Nat.pow_le_pow_right (n:=2) (by omega) hn
  simpa using this
 have h0:0<2 ^ n:=Nat.pow_pos (by omega)
 rw[e,u64_and_nat _ _ hy (by omega),Nat.and_two_pow_sub_one_eq_mod]
 congr 1
 have h:IntKind.u64.wrap x=x % 18446744073709551616:=by simp[IntKind.wrap,IntKind.signed,IntKind.bits]
 rw[h] at e
 obtain ⟨q,hq⟩ :2 ^ n ∣ 18446744073709551616:=by
  have:=Nat.pow_dvd_pow 2 hn
  simpa using this
 have hm:(x % ((2 ^ n:Nat):Int))=((y % 2 ^ n:Nat):Int):=by
  rw[Int.natCast_emod,←e]
  have:(18446744073709551616:Int)=((2 ^ n:Nat):Int) * (q:Int):=by rw[←Int.natCast_mul,←hq];rfl
  exact (Int.emod_emod_of_dvd x ⟨(q:Int),this⟩).symm
 rw[hm];rfl
theorem or_fits (a b n:Nat) (h:a<2 ^ n):a ||| (b * 2 ^ n)=a+b * 2 ^ n:=by
 rw[Nat.or_comm,←Nat.shiftLeft_eq,←Nat.shiftLeft_add_eq_or_of_lt h,Nat.add_comm]
theorem hd_or (K L C B:Nat) (hK:K<16) (hL:L<16) (hC:C<16) (hB:B<1048576) :
  bits BinOp.or IntKind.u64 (bits BinOp.or IntKind.u64 (bits BinOp.or IntKind.u64 (bits BinOp.or IntKind.u64 (K:Int) ((L:Int) * 16)) ((C:Int) * 256)) ((B:Int) * 4096)) 5572078638964146176=((K+L * 16+C * 256+B * 4096+5572078638964146176:Nat):Int):=by
 have e1:(L:Int) * 16=((L * 2 ^ 4:Nat):Int):=by omega
 have e2:(C:Int) * 256=((C * 2 ^ 8:Nat):Int):=by omega
 have e3:(B:Int) * 4096=((B * 2 ^ 12:Nat):Int):=by omega
 have e4:(5572078638964146176:Int)=((19796 * 2 ^ 48:Nat):Int):=by rfl
 rw[e1,e2,e3,e4,u64_or_nat _ _ (by omega) (by omega),or_fits _ _ _ (by omega),u64_or_nat _ _ (by omega) (by omega),or_fits _ _ _ (by omega),u64_or_nat _ _ (by omega) (by omega),or_fits _ _ _ (by omega),u64_or_nat _ _ (by omega) (by omega),or_fits _ _ _ (by omega)]
theorem mod_nat (x:Int) (n:Nat) (h:0<n):(x % (n:Int)).toNat<n:=by
 have:=Int.emod_lt_of_pos x (b:=(n:Int)) (by omega)
 omega
theorem refHeader_any (k l c b:Int) (w:World) :
  Calls Tryz.prog 57 #[.int .i64 k,.int .i64 l,.int .i64 c,.int .i64 b] w fun e w'=>e=.returned (.int .u64 ((hdN k l c b:Nat):Int))∧w=w':=by
 have h1:=low_bits k 4 (by omega)
 have h2:=low_bits l 4 (by omega)
 have h3:=low_bits c 4 (by omega)
 have h4:=low_bits b 20 (by omega)
 rw[show ((2 ^ 4 - 1:Nat):Int)=15 from rfl,show ((2 ^ 4:Nat):Int)=16 from rfl] at h1 h2 h3
 rw[show ((2 ^ 20 - 1:Nat):Int)=1048575 from rfl,show ((2 ^ 20:Nat):Int)=1048576 from rfl] at h4
 have b1:=mod_nat k 16 (by omega)
 have b2:=mod_nat l 16 (by omega)
 have b3:=mod_nat c 16 (by omega)
 have b4:=mod_nat b 1048576 (by omega)
 have HH:Hid (hdN k l c b=(k % 16).toNat+(l % 16).toNat * 16+(c % 16).toNat * 256+(b % 1048576).toNat * 4096+5572078638964146176):=rfl
 simp only[Int.cast_ofNat_Int] at b1 b2 b3 b4
 generalize (k % 16).toNat=K at *
 generalize (l % 16).toNat=L at *
 generalize (c % 16).toNat=C at *
 generalize (b % 1048576).toNat=B at *
 go_enter Tryz.func57,Tryz.ntmps57
 go_wp2
 go_ret
 refine ⟨ret_int ?_,rfl⟩
 rw[HH.out]
 exact hd_or K L C B b1 b2 b3 b4
def mkT (vs:List Nat):Nat→List Nat
 |0=>vs
 |k+1=>(mkT vs k).set k ((vs[k]?.getD 0) &&& (2 ^ (headW[k]?.getD 0).toNat - 1))
theorem mkT_length (vs:List Nat) (k:Nat):(mkT vs k).length=vs.length:=by
 induction k with
 |zero=>rfl
 |succ k ih=>simp[mkT,ih]
theorem mkT_at (vs:List Nat) (k j:Nat) (h:k≤j):(mkT vs k)[j]?.getD 0=vs[j]?.getD 0:=by
 induction k with
 |zero=>rfl
 |succ k ih=>rw[mkT,List.getElem?_set_ne (by omega)];exact ih (by omega)
theorem mkT_w (vs:List Nat) (h:W64 vs) (k:Nat):W64 (mkT vs k):=by
 induction k with
 |zero=>exact h
 |succ k ih=>exact ih.set k _ (and_lt _ (h.at k))
theorem headW_at (k:Nat) (h:k<6):4≤headW[k]?.getD 0∧headW[k]?.getD 0≤20:=by
 match k,h with
 |0,_|1,_|2,_|3,_|4,_|5,_=>decide
theorem mk_bits (x n:Nat) (hx:x<18446744073709551616) (hn:n<64):bits BinOp.and IntKind.u64 (x:Int) (IntKind.u64.wrap (IntKind.u64.wrap (2 ^ n) - 1))=((x &&& (2 ^ n - 1):Nat):Int):=by
 have:=two_pow_lt n hn
 rw[ones_wrap n hn,u64_and_nat _ _ hx (by omega)]
theorem low_nat (x:Int) (y n:Nat) (hn:n≤64) (e:IntKind.u64.wrap x=(y:Int)) (hy:y<18446744073709551616):y &&& (2 ^ n - 1)=(x % ((2 ^ n:Nat):Int)).toNat:=by
 have h:=low_bits x n hn
 have h2:2 ^ n≤18446744073709551616:=by
  have:=Nat.pow_le_pow_right (n:=2) (by omega) hn
  simpa using this
 have h0:0<2 ^ n:=Nat.pow_pos (by omega)
 rw[e,u64_and_nat _ _ hy (by omega)] at h
 exact Int.ofNat.inj h
theorem word_head (K L C B S:Nat) (hK:K<16) (hL:L<16) (hC:C<16) (hB:B<1048576) (hS:S<65536) :
  wordR headW [K,L,C,B,S,19796]=K+L * 16+C * 256+B * 4096+S * 4294967296+5572078638964146176:=by
 have hf:upto (fldOf headW) 6= [⟨0,15,by omega,by omega⟩,⟨4,15,by omega,by omega⟩,⟨8,15,by omega,by omega⟩,⟨12,1048575,by omega,by omega⟩,⟨32,65535,by omega,by omega⟩,⟨48,65535,by omega,by omega⟩]:=by rfl
 have hl:headW.length=6:=rfl
 have hfit:fitsB (upto (fldOf headW) 6) [K,L,C,B,S,19796]=true:=by
  rw[hf]
  simp[fitsB]
  omega
 unfold wordR
 rw[hl,if_pos ⟨rfl,by decide,hfit⟩,hf]
 simp only[wordF,List.getElem?_cons_zero,Option.getD_some,List.tail_cons,Nat.shiftLeft_eq,Nat.or_zero]
 rw[Nat.mod_eq_of_lt (by omega),Nat.mod_eq_of_lt (by omega),Nat.mod_eq_of_lt (by omega),Nat.mod_eq_of_lt (by omega),Nat.mod_eq_of_lt (by omega),Nat.mod_eq_of_lt (by omega)]
 rw[←Nat.or_assoc,←Nat.or_assoc,←Nat.or_assoc,←Nat.or_assoc]
 rw[show K * 2 ^ 0=K by omega,or_fits K L 4 (by omega),or_fits (K+L * 2 ^ 4) C 8 (by omega),or_fits (K+L * 2 ^ 4+C * 2 ^ 8) B 12 (by omega),or_fits (K+L * 2 ^ 4+C * 2 ^ 8+B * 2 ^ 12) S 32 (by omega),or_fits (K+L * 2 ^ 4+C * 2 ^ 8+B * 2 ^ 12+S * 2 ^ 32) 19796 48 (by omega)]
theorem mk_head (k l c b:Int) (k1 l1 c1 b1:Nat) (e1:IntKind.u64.wrap k=(k1:Int)) (e2:IntKind.u64.wrap l=(l1:Int)) (e3:IntKind.u64.wrap c=(c1:Int)) (e4:IntKind.u64.wrap b=(b1:Int))
  (h1:k1<18446744073709551616) (h2:l1<18446744073709551616) (h3:c1<18446744073709551616) (h4:b1<18446744073709551616):wordR headW (mkT [k1,l1,c1,b1,0,19796] 6)=hdN k l c b:=by
 have hm:mkT [k1,l1,c1,b1,0,19796] 6= [k1 &&& (2 ^ 4 - 1),l1 &&& (2 ^ 4 - 1),c1 &&& (2 ^ 4 - 1),b1 &&& (2 ^ 20 - 1),0,19796]:=by simp[mkT,headW]
 rw[hm,low_nat k k1 4 (by omega) e1 h1,low_nat l l1 4 (by omega) e2 h2,low_nat c c1 4 (by omega) e3 h3,low_nat b b1 20 (by omega) e4 h4]
 rw[word_head _ _ _ _ _ (mod_nat k 16 (by omega)) (mod_nat l 16 (by omega)) (mod_nat c 16 (by omega)) (mod_nat b 1048576 (by omega)) (by omega)]
 unfold hdN
 show _=_
 omega
theorem reads_six (w:World) (g:Nat) (hr:Reads w (some ⟨g,0,none⟩) (iv headW)) (k:Nat) (hk:k<6):w.cell? ⟨g,k,none⟩=some (.int .i64 (headW[k]?.getD 0)):=by
 obtain ⟨b,off,e,_,hc⟩:=hr.i (by decide)
 simp only[Option.some.injEq,Addr.mk.injEq] at e
 obtain ⟨rfl,rfl,_⟩:=e
 have:=hc k hk
 rwa[Nat.zero_add] at this
theorem header_any (k l c b:Int) (w:World) :
  Calls Tryz.prog 111 #[.int .i64 k,.int .i64 l,.int .i64 c,.int .i64 b] w fun e w'=>e=.returned (.int .u64 ((hdN k l c b:Nat):Int))∧Below w.heap.size w w':=by
 obtain ⟨k1,e1,hk1⟩:=any_u64 k
 obtain ⟨l1,e2,hl1⟩:=any_u64 l
 obtain ⟨c1,e3,hc1⟩:=any_u64 c
 obtain ⟨b1,e4,hb1⟩:=any_u64 b
 have HV:=Hi (mk_head k l c b k1 l1 c1 b1 e1 e2 e3 e4 hk1 hl1 hc1 hb1)
 have hw:W64 [k1,l1,c1,b1,0,19796]:=by
  intro x hx
  simp only[List.mem_cons,List.not_mem_nil,or_false] at hx
  omega
 go_enter Tryz.func111,Tryz.ntmps111
 go_wp2_with fail
 refine (widths_any w).mono ?_
 rintro e w1 ⟨rfl,hr,hb⟩
 have HR:=Hi hr
 clear hr
 go_wp2_with fail
 have hown:(w1.alloc (.cells #[.int .u64 (k1:Int),.int .u64 (l1:Int),.int .u64 (c1:Int),.int .u64 (b1:Int),.int .u64 0,.int .u64 19796] 39)).ownsRow w1.heap.size 39 1 (.slice (some ⟨w1.heap.size,0,none⟩) 6 6) 6 (uv [k1,l1,c1,b1,0,19796]):=
  World.ownsRow_lit w1 _ 6 (Nat.le_refl _) (by simp only[maxLen];omega) rfl
 have hbw:Below w1.heap.size w1 (w1.alloc (.cells #[.int .u64 (k1:Int),.int .u64 (l1:Int),.int .u64 (c1:Int),.int .u64 (b1:Int),.int .u64 0,.int .u64 19796] 39)):=(Below.refl _ _).alloc (Nat.le_refl _) _
 generalize (w1.alloc _)=w2 at hown hbw ⊢
 generalize hvs: [k1,l1,c1,b1,0,19796]=vs at hown hw HV
 have hvl:Hid (vs.length=6):=by show _=_;rw[←hvs];rfl
 have HO:=Hi hown
 clear e1 e2 e3 e4 hvs hown
 go_loopw [27] (fun i wr=>∃j:Nat,j≤6∧i=.int .i64 j∧wr.ownsRow w1.heap.size 39 1 (.slice (some ⟨w1.heap.size,0,none⟩) 6 6) 6 (uv (mkT vs j))∧Below w1.heap.size w1 wr) (fun i _=>6 - (intOf i).toNat)
 case atStart=>exact ⟨0,by omega,rfl,HO.out,hbw⟩
 case round=>
  obtain ⟨j,hj,rfl,hown,hbr⟩:=hrel
  by_cases hlt:j<6
  ·have hh:=headW_at j hlt
   have hr:=(HR.out.keep hbr)
   have hc1:=reads_six _ _ hr j hlt
   have hc2:=hown.cellAt j (by omega)
   have hf:=hown.frozenAt j
   rw[uv_at _ _ (by rw[mkT_length,hvl.out];omega),mkT_at _ _ _ (Nat.le_refl _)] at hc2
   have hx:=hw.at j
   have hst:=(hown.stored j (.int .u64 (((vs[j]?.getD 0) &&& (2 ^ (headW[j]?.getD 0).toNat - 1):Nat):Int))).1
   rw[uv_set] at hst
   have HST:Hid ((wr.setCell ⟨w1.heap.size,j,none⟩ (.int .u64 (((vs[j]?.getD 0) &&& (2 ^ (headW[j]?.getD 0).toNat - 1):Nat):Int))).ownsRow w1.heap.size 39 1 (.slice (some ⟨w1.heap.size,0,none⟩) 6 6) 6 (uv (mkT vs (j+1)))):=hst
   have hbs:=hbr.setCell (p:=⟨w1.heap.size,j,none⟩) (Nat.le_refl _) (.int .u64 (((vs[j]?.getD 0) &&& (2 ^ (headW[j]?.getD 0).toNat - 1):Nat):Int))
   have hmb:=mk_bits (vs[j]?.getD 0) (headW[j]?.getD 0).toNat hx (by omega)
   generalize (vs[j]?.getD 0)=x at *
   generalize (headW[j]?.getD 0)=n at *
   clear hst hr hown
   generalize (x &&& (2 ^ n.toNat - 1))=y at HST hbs hmb
   go_wp2_with fail
   go_still_tail 9,(by kernel_rfl)
   go_wp2_with fail
   go_roundw
   case rel=>exact ⟨j+1,by omega,by go_num,World.ownsRow.drew HST.out,hbs.drew⟩
   case measure=>simp[intOf];omega
  ·have hr:=Reads.of_own hown
   have hl:mkT vs 6=mkT vs j:=by rw[show j=6 by omega]
   have hlen:(mkT vs 6).length=6:=by rw[mkT_length,hvl.out]
   rw[←hl] at hr
   have HR2:=Hi hr
   have HL:=Hi hlen
   clear hl hlen hr hown
   go_wp2_with fail
   refine (fields_all _ _ _ _ 6 6 headW (mkT vs 6) _ (by rfl) HL.out (HR.out.keep hbr) HR2.out (by omega) (mkT_w vs hw 6)).mono ?_
   rintro e w3 ⟨rfl,hb3⟩
   go_wp2_with fail
   go_ret
   exact ⟨ret_int (by rw[HV.out]),(hb.trans (hbr.mono hb.size)).trans (hb3.mono (Nat.le_trans hb.size hbr.size))⟩
end
section
open Go.RowKit
def sealedN (l:List Nat) (kind block:Int):Int:=
 if l.length≠16 then 3 else
 if (l[0]?.getD 0) / 281474976710656≠19796∨(((l[0]?.getD 0) % 16:Nat):Int)≠kind then 2 else
 if (l[0]?.getD 0) / 4294967296 % 65536≠sumN l then 11 else
 if (((l[0]?.getD 0) / 4096 % 1048576:Nat):Int)≠block then 24 else 0
theorem and_mask (x n:Nat):x &&& (2 ^ n - 1)=x % 2 ^ n:=Nat.and_two_pow_sub_one_eq_mod x n
def fieldsN (x:Nat):List Nat:=[x % 16,x / 16 % 16,x / 256 % 16,x / 4096 % 1048576,x / 4294967296 % 65536,x / 281474976710656]
theorem split_head (x:Nat) (hx:x<18446744073709551616):splitR headW x=fieldsN x:=by
 have hf:upto (fldOf headW) 6= [⟨0,15,by omega,by omega⟩,⟨4,15,by omega,by omega⟩,⟨8,15,by omega,by omega⟩,⟨12,1048575,by omega,by omega⟩,⟨32,65535,by omega,by omega⟩,⟨48,65535,by omega,by omega⟩]:=by rfl
 unfold splitR
 rw[if_pos (by decide),show headW.length=6 from rfl,hf]
 have m4:=and_mask x 4
 have m4':=and_mask (x / 16) 4
 have m4'':=and_mask (x / 256) 4
 have m20:=and_mask (x / 4096) 20
 have m16:=and_mask (x / 4294967296) 16
 have m16':=and_mask (x / 281474976710656) 16
 simp only[Nat.reducePow,Nat.reduceSub] at m4 m4' m4'' m20 m16 m16'
 simp only[splitF,List.map_cons,List.map_nil,fieldsN,Nat.shiftRight_eq_div_pow,Nat.reducePow,Nat.div_one,m4,m4',m4'',m20,m16,m16']
 rw[show x / 281474976710656 % 65536=x / 281474976710656 by omega]
theorem split_widths (x:Nat) (w:World) (A:Option Addr) (hA:Reads w A (iv headW)) (hx:x<18446744073709551616) :
  Calls Tryz.prog 63 #[.int .u64 x,.slice A 6 6] w fun e w'=>∃g d,e=.returned (.tuple #[.slice (some ⟨g,0,none⟩) 6 d,.int .i64 0])∧w.heap.size≤g∧g<w'.heap.size∧(∀i,i<6→w'.cell? ⟨g,i,none⟩=some (.int .u64 (((fieldsN x)[i]?.getD 0:Nat):Int)))∧Below w.heap.size w w':=by
 have h:=split_ok x A 6 headW w hA (by decide) (by decide) hx
 have hs:=split_head x hx
 unfold splitR at hs
 rw[if_pos (by decide)] at hs
 rw[hs] at h
 refine h.mono ?_
 rintro e w' ⟨v,rfl,hown,hb⟩
 obtain ⟨g,cap,rfl,hg,hlt⟩:=hown.form (by decide)
 refine ⟨g,cap,rfl,hg,hlt,fun i hi=>?_,hb⟩
 have hc:=hown.cellAt i hi
 rwa[uv_at _ _ (by simpa[fieldsN] using hi)] at hc
theorem sealed_any (A:Option Addr) (c n:Nat) (l:List Nat) (kind block:Int) (w:World) (hn:l.length=n) (hA:Reads w A (uv l)) (hl:W64 l) (hlen:n≤1000000) :
  Calls Tryz.prog 66 #[.slice A n c,.int .i64 kind,.int .i64 block] w fun e w'=>e=.returned (.int .i64 (sealedN l kind block))∧Below w.heap.size w w':=by
 by_cases h16:n=16
 ·subst h16
  have hx:=hl.at 0
  obtain ⟨b,off,rfl,hb,hc⟩:=hA.u (by omega)
  have hc0:=hc 0 (by omega)
  rw[Nat.add_zero] at hc0
  have HS:=Hi (fun W hA=>sum_any (some ⟨b,off,none⟩) c 16 l W hn hA hl (by omega) (by omega))
  have HN:Hid (sealedN l kind block=if (l[0]?.getD 0) / 281474976710656≠19796∨(((l[0]?.getD 0) % 16:Nat):Int)≠kind then 2 else
   if (l[0]?.getD 0) / 4294967296 % 65536≠sumN l then 11 else
   if (((l[0]?.getD 0) / 4096 % 1048576:Nat):Int)≠block then 24 else 0):=by
   show _=_
   unfold sealedN
   rw[if_neg (by omega)]
  have HA:=Hi hA
  clear hc hn hA
  generalize (l[0]?.getD 0)=x at *
  generalize sumN l=s at *
  go_enter Tryz.func66,Tryz.ntmps66
  go_wp2_with fail
  go_region_held3 (fun w'=>w'.cell? ⟨b,off,none⟩=some (.int .u64 (x:Int))) (first|exact hc0|exact hcA|exact hcB)
   (first
    |(go_at_call 109;refine (widths_any _).mono ?_;rintro e w1 ⟨rfl,hr1,hb1⟩;have hcA:=(hb1.cell (p:=⟨b,off,none⟩) hb).trans hc0)
    |(go_at_call 63;refine (split_widths x _ _ hr1 hx).mono ?_;rintro e w2 ⟨g,d,rfl,hg1,hg2,hg3,hb2⟩;have hcB:=(hb2.cell (p:=⟨b,off,none⟩) (Nat.lt_of_lt_of_le hb hb1.size)).trans hcA))
  have f0:w2.cell? ⟨g,0,none⟩=some (.int .u64 ((x % 16:Nat):Int)):=hg3 0 (by omega)
  have f3:w2.cell? ⟨g,3,none⟩=some (.int .u64 ((x / 4096 % 1048576:Nat):Int)):=hg3 3 (by omega)
  have f4:w2.cell? ⟨g,4,none⟩=some (.int .u64 ((x / 4294967296 % 65536:Nat):Int)):=hg3 4 (by omega)
  have f5:w2.cell? ⟨g,5,none⟩=some (.int .u64 ((x / 281474976710656:Nat):Int)):=hg3 5 (by omega)
  have q0:x % 16<16:=by omega
  have q3:x / 4096 % 1048576<1048576:=by omega
  have q4:x / 4294967296 % 65536<65536:=by omega
  have hbw:Below w.heap.size w w2:=((Below.refl w.heap.size w).drew.trans hb1).trans (hb2.mono hb1.size)
  have HA2:=Hi (HA.out.keep hbw)
  generalize x % 16=y0 at *
  generalize x / 4096 % 1048576=y3 at *
  generalize x / 4294967296 % 65536=y4 at *
  generalize x / 281474976710656=y5 at *
  clear hg3 hcA hcB hc0 hr1 hb1 hb2 HA
  by_cases e5:y5=19796
  ·have d5:((y5:Int) != 19796)=false:=by simp;omega
   by_cases ek:(y0:Int)=kind
   ·have dk:((y0:Int) != kind)=false:=by simpa using ek
    have HN2:Hid (sealedN l kind block=if y4≠s then 11 else if (y3:Int)≠block then 24 else 0):=by
     show _=_
     rw[HN.out,if_neg (by omega)]
    clear HN e5 ek
    go_wp2_with fail
    go_region_held3 (fun w'=>w'.cell? ⟨g,4,none⟩=some (.int .u64 (y4:Int))) (first|exact f4|exact f4a)
     (first
      |(go_at_call 110;refine (HS.out _ (HA2.out.drewN 1)).mono ?_;rintro e w3 ⟨rfl,hb3⟩;have f4a:=(hb3.cell (p:=⟨g,4,none⟩) hg2).trans f4))
    have f3a:=(hb3.cell (p:=⟨g,3,none⟩) hg2).trans f3
    have hbw3:=(hbw.drew).trans (hb3.mono hbw.size)
    by_cases es:y4=s
    ·have ds:((y4:Int) != (s:Int))=false:=by simp;omega
     by_cases eb:(y3:Int)=block
     ·have db:((y3:Int) != block)=false:=by simpa using eb
      have HN3:Hid (sealedN l kind block=0):=by
       show _=_
       rw[HN2.out,if_neg (by omega),if_neg (by omega)]
      clear HN2 es eb f0 f3 f4 f5
      go_wp2_with fail
      go_ret
      exact ⟨ret_int HN3.out.symm,hbw3⟩
     ·have db:((y3:Int) != block)=true:=by simpa using eb
      have HN3:Hid (sealedN l kind block=24):=by
       show _=_
       rw[HN2.out,if_neg (by omega),if_pos (by omega)]
      clear HN2 es eb f0 f3 f4 f5
      go_wp2_with fail
      go_ret
      exact ⟨ret_int HN3.out.symm,hbw3⟩
    ·have ds:((y4:Int) != (s:Int))=true:=by simp;omega
     have HN3:Hid (sealedN l kind block=11):=by
      show _=_
      rw[HN2.out,if_pos (by omega)]
     clear HN2 es f0 f3 f4 f5
     go_wp2_with fail
     go_ret
     exact ⟨ret_int HN3.out.symm,hbw3⟩
   ·have dk:((y0:Int) != kind)=true:=by simpa using ek
    have HN2:Hid (sealedN l kind block=2):=by
     show _=_
     rw[HN.out,if_pos (by omega)]
    clear HN e5 ek
    go_wp2_with fail
    go_ret
    exact ⟨ret_int HN2.out.symm,hbw⟩
  ·have d5:((y5:Int) != 19796)=true:=by simp;omega
   have HN2:Hid (sealedN l kind block=2):=by
    show _=_
    rw[HN.out,if_pos (by omega)]
   clear HN e5
   go_wp2_with fail
   go_ret
   exact ⟨ret_int HN2.out.symm,hbw⟩
 ·have h:((n:Int) != 16)=true:=by simp;omega
  have HN:Hid (sealedN l kind block=3):=by show _=_;unfold sealedN;rw[if_pos (by omega)]
  clear hn
  go_enter Tryz.func66,Tryz.ntmps66
  go_wp2_with fail
  go_ret
  exact ⟨ret_int HN.out.symm,Below.refl _ _⟩
theorem and_low (x n:Nat) (hn:n≤64) (hx:x<18446744073709551616):bits BinOp.and IntKind.u64 (x:Int) ((2 ^ n - 1:Nat):Int)=((x % 2 ^ n:Nat):Int):=by
 have h2:2 ^ n≤18446744073709551616:=by
  have:=Nat.pow_le_pow_right (n:=2) (by omega) hn
  simpa using this
 have h0:0<2 ^ n:=Nat.pow_pos (by omega)
 rw[u64_and_nat _ _ hx (by omega),Nat.and_two_pow_sub_one_eq_mod]
theorem refSealed_any (A:Option Addr) (c n:Nat) (l:List Nat) (kind block:Int) (w:World) (hn:l.length=n) (hA:Reads w A (uv l)) (hl:W64 l) (hlen:n≤1000000) :
  Calls Tryz.prog 56 #[.slice A n c,.int .i64 kind,.int .i64 block] w fun e w'=>e=.returned (.int .i64 (sealedN l kind block))∧Below w.heap.size w w':=by
 by_cases h16:n=16
 ·subst h16
  have hx:=hl.at 0
  obtain ⟨b,off,rfl,hb,hc⟩:=hA.u (by omega)
  have hc0:=hc 0 (by omega)
  rw[Nat.add_zero] at hc0
  have HS:=Hi (fun W hA=>refSum_any (some ⟨b,off,none⟩) c 16 l W hn hA hl (by omega) (by omega))
  have HN:Hid (sealedN l kind block=if (l[0]?.getD 0) / 281474976710656≠19796∨(((l[0]?.getD 0) % 16:Nat):Int)≠kind then 2 else
   if (l[0]?.getD 0) / 4294967296 % 65536≠sumN l then 11 else
   if (((l[0]?.getD 0) / 4096 % 1048576:Nat):Int)≠block then 24 else 0):=by
   show _=_
   unfold sealedN
   rw[if_neg (by omega)]
  have HA:=Hi hA
  clear hc hn hA
  generalize (l[0]?.getD 0)=x at *
  generalize sumN l=s at *
  have b0:bits BinOp.and IntKind.u64 (x:Int) 15=((x % 16:Nat):Int):=and_low x 4 (by omega) hx
  have b3:bits BinOp.and IntKind.u64 ((x:Int) / 4096) 1048575=((x / 4096 % 1048576:Nat):Int):=and_low (x / 4096) 20 (by omega) (by omega)
  have b4:bits BinOp.and IntKind.u64 ((x:Int) / 4294967296) 65535=((x / 4294967296 % 65536:Nat):Int):=and_low (x / 4294967296) 16 (by omega) (by omega)
  have b5:(x:Int) / 281474976710656=((x / 281474976710656:Nat):Int):=rfl
  have q0:x % 16<16:=by omega
  have q3:x / 4096 % 1048576<1048576:=by omega
  have q4:x / 4294967296 % 65536<65536:=by omega
  generalize x % 16=y0 at *
  generalize x / 4096 % 1048576=y3 at *
  generalize x / 4294967296 % 65536=y4 at *
  generalize x / 281474976710656=y5 at *
  go_enter Tryz.func56,Tryz.ntmps56
  by_cases e5:y5=19796
  ·have d5:((y5:Int) != 19796)=false:=by simp;omega
   by_cases ek:(y0:Int)=kind
   ·have dk:((y0:Int) != kind)=false:=by simpa using ek
    have HN2:Hid (sealedN l kind block=if y4≠s then 11 else if (y3:Int)≠block then 24 else 0):=by
     show _=_
     rw[HN.out,if_neg (by omega)]
    clear HN e5 ek
    go_wp2_with fail
    go_region_held3 (fun w'=>w'.cell? ⟨b,off,none⟩=some (.int .u64 (x:Int))) (first|exact hc0|exact hcA)
     (first
      |(go_at_call 99;refine (HS.out _ (HA.out.drewN 1)).mono ?_;rintro e w3 ⟨rfl,hb3⟩;have hcA:=(hb3.cell (p:=⟨b,off,none⟩) hb).trans hc0))
    have hbw3:=(Below.refl w.heap.size w).drew.trans hb3
    by_cases es:y4=s
    ·have ds:((y4:Int) != (s:Int))=false:=by simp;omega
     by_cases eb:(y3:Int)=block
     ·have db:((y3:Int) != block)=false:=by simpa using eb
      have HN3:Hid (sealedN l kind block=0):=by
       show _=_
       rw[HN2.out,if_neg (by omega),if_neg (by omega)]
      clear HN2 es eb hc0
      go_wp2_with fail
      go_ret
      exact ⟨ret_int HN3.out.symm,hbw3⟩
     ·have db:((y3:Int) != block)=true:=by simpa using eb
      have HN3:Hid (sealedN l kind block=24):=by
       show _=_
       rw[HN2.out,if_neg (by omega),if_pos (by omega)]
      clear HN2 es eb hc0
      go_wp2_with fail
      go_ret
      exact ⟨ret_int HN3.out.symm,hbw3⟩
    ·have ds:((y4:Int) != (s:Int))=true:=by simp;omega
     have HN3:Hid (sealedN l kind block=11):=by
      show _=_
      rw[HN2.out,if_pos (by omega)]
     clear HN2 es hc0
     go_wp2_with fail
     go_ret
     exact ⟨ret_int HN3.out.symm,hbw3⟩
   ·have dk:((y0:Int) != kind)=true:=by simpa using ek
    have HN2:Hid (sealedN l kind block=2):=by
     show _=_
     rw[HN.out,if_pos (by omega)]
    clear HN e5 ek
    go_wp2_with fail
    go_ret
    exact ⟨ret_int HN2.out.symm,Below.refl _ _⟩
  ·have d5:((y5:Int) != 19796)=true:=by simp;omega
   have HN2:Hid (sealedN l kind block=2):=by
    show _=_
    rw[HN.out,if_pos (by omega)]
   clear HN e5
   go_wp2_with fail
   go_ret
   exact ⟨ret_int HN2.out.symm,Below.refl _ _⟩
 ·have h:((n:Int) != 16)=true:=by simp;omega
  have HN:Hid (sealedN l kind block=3):=by show _=_;unfold sealedN;rw[if_pos (by omega)]
  clear hn
  go_enter Tryz.func56,Tryz.ntmps56
  go_wp2_with fail
  go_ret
  exact ⟨ret_int HN.out.symm,Below.refl _ _⟩
end
end Go.Proofs.YtplhdjdkobddnaaGreat
