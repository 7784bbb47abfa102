/- StE NodeX MwA MwB -/
import Derived.Test.YtplhdjdkobddnaaGreatTr15
set_option linter.unusedVariables false
set_option maxRecDepth 100000
set_option maxHeartbeats 40000000
namespace Go.Proofs.YtplhdjdkobddnaaGreat
section
open Go.RowKit
attribute [local go_sem] Oper.semAt_some
theorem own_cap {w:World} {base n c:Nat} {e:TypeId} {size:Nat} {A:Option Addr} {xs:List Value} (h:w.ownsRow base e size (.slice A n c) n xs):n≤c:=by
 rcases h.2 with ⟨h1,h2⟩| ⟨g,cap,cur,h1,_,_,h3,_⟩
 ·omega
 ·injection h1 with _ _ h1;omega
theorem own_ge {w:World} {base n:Nat} {e:TypeId} {size:Nat} {A:Option Addr} {c:Nat} {xs:List Value} (h:w.ownsRow base e size (.slice A n c) n xs):∀p,A=some p→base≤p.block∧p.block<w.heap.size∧(Value.slice A n c).ownBlock=some p.block:=by
 intro p hp
 subst hp
 rcases h.2 with ⟨h1,h2⟩| ⟨g,cap,cur,h1,hb,hh,_⟩
 ·cases h1
 ·injection h1 with h1 _ _
  injection h1 with h1
  subst h1
  exact ⟨hb,(Array.getElem?_eq_some_iff.1 hh).1,rfl⟩
section
variable {W W':World} {F F':Nat→Prop} {P:SP} {S:St} {ws:List Nat} {G:Nat→Prop} {Out:Nat→Prop}
theorem NdV.parts {n:Nd} {lv sq:Int} {A:Option Addr} {len c:Nat} (h:NdV W Out n (.agg #[.int .i64 lv,.int .i64 sq,.slice A len c])) :
  lv=(n.lv:Int)∧sq=(n.sq:Int)∧len=n.es.length∧Reads W A (ev n.es)∧n.es.length≤c∧(n.es≠[]→∀p,A=some p→Out p.block∧p.block<W.heap.size)∧E64 n.es∧n.lv≤16∧n.sq≤33554432∧n.es.length≤8:=by
 obtain ⟨A',c',e,h1,h2,h3,h4,h5,h6,h7⟩:=h
 injection e with e
 have e2:=congrArg Array.toList e
 simp only[List.cons.injEq,and_true] at e2
 obtain ⟨e3,e4,e5⟩:=e2
 injection e3 with _ e3
 injection e4 with _ e4
 injection e5 with e5 e6 e7
 subst e5 e7
 exact ⟨e3,e4,e6,h1,h2,h3,h4,h5,h6,h7⟩
theorem ndv_zero:NdV W Out ⟨0,0,[]⟩ (.agg #[.int .i64 0,.int .i64 0,.slice none 0 0]):=
 ⟨none,0,rfl,Reads.nil,Nat.le_refl _,(fun h=>absurd rfl h),(fun p hp=>by cases hp),by decide,by decide,by decide⟩
theorem blk_len {b:Nat} (h:(b+1) * 16≤ws.length):(blkW ws b).length=16:=by
 unfold blkW
 rw[List.length_take,List.length_drop]
 omega
theorem blk_w (h:W64 ws) (b:Nat):W64 (blkW ws b):=fun x hx=>h x (List.mem_of_mem_drop (List.mem_of_mem_take hx))
theorem blk_reads {w cw:Nat} (h:W.ownsRow 0 39 1 (.slice (some ⟨w,0,none⟩) ws.length cw) ws.length (uv ws)) {b:Nat} (hb:(b+1) * 16≤ws.length):Reads W (some ⟨w,b * 16,none⟩) (uv (blkW ws b)):=by
 intro _
 refine ⟨w,b * 16,rfl,own_lt h _ rfl,fun i v hi=>?_⟩
 have hlt:=(List.getElem?_eq_some_iff.1 hi).1
 rw[uv_length,blk_len hb] at hlt
 rw[uv_at _ _ (by rw[blk_len hb];exact hlt)] at hi
 injection hi with hi
 rw[←hi]
 have h1:=h.cellAt (b * 16+i) (by omega)
 rw[uv_at _ _ (by omega)] at h1
 rw[h1]
 unfold blkW
 rw[List.getElem?_take,if_pos hlt,List.getElem?_drop]
theorem ndv_own {W0 W1:World} {n:Nd} {A:Option Addr} {c base:Nat} (h:W1.ownsRow base 94 2 (.slice A n.es.length c) n.es.length (ev n.es)) (hb:W0.heap.size≤base) (hP:∀j,P.has j→j<W0.heap.size) (he:E64 n.es) (h1:n.lv≤16) (h2:n.sq≤33554432) (h3:n.es.length≤8) :
  NdV W1 (OutF (FN F W0) P) n (.agg #[.int .i64 (n.lv:Int),.int .i64 (n.sq:Int),.slice A n.es.length c]):=
 ⟨A,c,rfl,Reads.of_own h,own_cap h,fun _ p hp=>by
  obtain ⟨g1,g2,g3⟩:=own_ge h p hp
  exact ⟨⟨.inr (Nat.le_trans hb g1),fun hh=>by have:=hP _ hh;omega⟩,g2⟩,he,h1,h2,h3⟩
theorem dec_facts {l:List Nat} {b:Nat} (hw:W64 l) (h:decE l (b:Int)=0):(decLv l b)=((nodeOf l b).lv:Int)∧(decSq l b)=((nodeOf l b).sq:Int)∧(nodeOf l b).es=decL l b∧E64 (decL l b)∧(nodeOf l b).lv≤8∧(nodeOf l b).sq≤16777215∧(decL l b).length≤7∧ascF (-1) (decL l b)=true:=by
 have h0:=h
 have hv:validN (lvN l) (sqN l) (upto (entAt l) (cntN l))=0:=by
  unfold decE at h
  split at h
  ·rename_i q;exact absurd h q
  ·split at h
   ·cases h
   ·split at h
    ·cases h
    ·split at h
     ·cases h
     ·rename_i q
      exact Classical.not_not.1 q
 obtain ⟨v1,v2,v3,v4,v5,v6⟩:=(valid_iff _ _ _).1 hv
 have e1:decLv l b=(lvN l:Int):=by unfold decLv;rw[if_pos h0]
 have e2:decSq l b=(sqN l:Int):=by unfold decSq;rw[if_pos h0]
 have e3:decL l b=upto (entAt l) (cntN l):=by unfold decL;rw[if_pos h0]
 refine ⟨?_,?_,rfl,?_,?_,?_,by rw[e3];exact v5,by rw[e3];exact v6⟩
 ·show decLv l b=((decLv l b).toNat:Int)
  rw[e1];rfl
 ·show decSq l b=((decSq l b).toNat:Int)
  rw[e2];rfl
 ·rw[e3]
  refine upto_E64 l _ hw (fun i hi=>?_)
  have h1:=ascF_at (-1) _ i v6 (by simp[upto];exact hi)
  have h2:((upto (entAt l) (cntN l))[i]?.getD (0,0)).1=((l[1+i]?.getD 0:Nat):Int):=by
   unfold upto
   rw[List.getElem?_map,List.getElem?_range hi]
   rfl
  rw[h2] at h1
  omega
 ·show (decLv l b).toNat≤8
  rw[e1]
  omega
 ·show (decSq l b).toNat≤16777215
  rw[e2]
  omega
end
theorem rempty26_any (W:World) (F:Nat→Prop) (P:SP) (S:St) (ws:List Nat) (h:StIn W F P S ws) (b:Nat) (hp:S.bl.pick=some b) :
  Calls Tryz.prog 83 #[.pointer (some ⟨P.s,0,none⟩)] W fun e w'=>e=.returned (.tuple #[.int .i64 (b:Int),.int .i64 0])∧StIn w' F P (({ S with bl:=S.bl.setN b 1 }:St).put b ⟨0,0,[]⟩) ws∧Fr P.has W w':=by
 have hf:=Hi (rfresh_any W F P S ws h b hp ⟨0,0,[]⟩ none 0 0 rfl ndv_zero)
 go_enter Tryz.func83,Tryz.ntmps83
 go_wp2_with fail
 go_at_call 119
 refine Calls.mono (hf.out) ?_
 rintro e w1 ⟨rfl,h1,f1⟩
 have H1:=Hi h1
 have F1:=Hi f1
 clear h1 f1
 go_wp2_with fail
 go_ret2
 exact ⟨rfl,H1.out,F1.out⟩
theorem rblock_any (A:Addr) (n c b:Nat) (W:World) (hb:(b+1) * 16≤n) (hc:n≤c) (hl:n≤1000000) :
  Calls Tryz.prog 22 #[.slice (some A) n c,.int .i64 (b:Int)] W fun e w'=>e=.returned (.slice (some (A.add (b * 16))) 16 (c - b * 16))∧W=w':=by
 have e1:IntKind.i64.wrap ((b:Int) * 16)=((b * 16:Nat):Int):=by rw[IntWalk.i64_in _ (by omega)];omega
 have e2:IntKind.i64.wrap ((b:Int)+1)=((b+1:Nat):Int):=by rw[IntWalk.i64_in _ (by omega)];rfl
 have e3:IntKind.i64.wrap (((b+1:Nat):Int) * 16)=(((b+1) * 16:Nat):Int):=by rw[IntWalk.i64_in _ (by omega)];omega
 go_enter Tryz.func22,Tryz.ntmps22
 go_wp2_with fail
 go_ret
 exact ⟨by rw[show (b+1) * 16 - b * 16=16 by omega];rfl,rfl⟩
end
section
open Go.RowKit
theorem clearS_at (a s t:Nat) (ha:a<4294967296) (hs:s<65536) (ht:t<65536):clearS (a+s * 4294967296+t * 281474976710656)=a+t * 281474976710656:=by
 unfold clearS
 have e1:a+s * 4294967296+t * 281474976710656=2 ^ 48 * t+(2 ^ 32 * s+a):=by omega
 have e2:18446744073709551615 - 281470681743360=2 ^ 48 * 65535+(2 ^ 32 * 0+(2 ^ 32 - 1)):=by omega
 have e3:a+t * 281474976710656=2 ^ 48 * t+(2 ^ 32 * 0+a):=by omega
 rw[e1,e2,e3]
 refine Nat.eq_of_testBit_eq fun j=>?_
 rw[Nat.testBit_and,Nat.testBit_two_pow_mul_add _ (by omega),Nat.testBit_two_pow_mul_add _ (by omega),Nat.testBit_two_pow_mul_add _ (by omega),Nat.testBit_two_pow_mul_add _ (by omega),Nat.testBit_two_pow_mul_add _ (by omega),Nat.testBit_two_pow_mul_add _ (by omega)]
 by_cases h48:j<48
 ·rw[if_pos h48,if_pos h48,if_pos h48]
  by_cases h32:j<32
  ·rw[if_pos h32,if_pos h32,if_pos h32,Nat.testBit_two_pow_sub_one]
   simp[h32]
  ·rw[if_neg h32,if_neg h32,if_neg h32]
   simp
 ·rw[if_neg h48,if_neg h48,if_neg h48]
  have h:(65535:Nat)=2 ^ 16 - 1:=by omega
  rw[h,Nat.testBit_two_pow_sub_one]
  by_cases h16:j - 48<16
  ·simp[h16]
  ·have:t.testBit (j - 48)=false:=Nat.testBit_lt_two_pow (Nat.lt_of_lt_of_le (show t<2 ^ 16 by omega) (Nat.pow_le_pow_right (by omega) (by omega)))
   simp[h16,this]
theorem sealW_at (a s t:Nat) (ha:a<4294967296) (hs:s<65536) (ht:t<65536):sealW (a+t * 281474976710656) s=a+s * 4294967296+t * 281474976710656:=by
 unfold sealW
 have h0:=clearS_at a 0 t ha (by omega) ht
 rw[Nat.zero_mul,Nat.add_zero] at h0
 rw[h0,Nat.shiftLeft_eq]
 have e1:a+t * 281474976710656=2 ^ 48 * t+(2 ^ 32 * 0+a):=by omega
 have e2:s * 2 ^ 32=2 ^ 48 * 0+(2 ^ 32 * s+0):=by omega
 have e3:a+s * 4294967296+t * 281474976710656=2 ^ 48 * t+(2 ^ 32 * s+a):=by omega
 rw[e3,e1,e2]
 refine Nat.eq_of_testBit_eq fun j=>?_
 rw[Nat.testBit_or,Nat.testBit_two_pow_mul_add _ (by omega),Nat.testBit_two_pow_mul_add _ (by omega),Nat.testBit_two_pow_mul_add _ (by omega),Nat.testBit_two_pow_mul_add _ (by omega),Nat.testBit_two_pow_mul_add _ (by omega),Nat.testBit_two_pow_mul_add _ (by omega)]
 by_cases h48:j<48
 ·rw[if_pos h48,if_pos h48,if_pos h48]
  by_cases h32:j<32
  ·rw[if_pos h32,if_pos h32,if_pos h32];simp
  ·rw[if_neg h32,if_neg h32,if_neg h32];simp
 ·rw[if_neg h48,if_neg h48,if_neg h48];simp
theorem padN_full (l:List Nat) (h:l.length=16):padN l=l:=by simp[padN,h]
theorem sumN_def (X:List Nat):sumN X=shortC (extendC 0 (X.set 0 (clearS (X[0]?.getD 0)))):=by unfold sumN;exact Eq.refl _
theorem seal_gen (P:List Nat) (x y:Nat) (hl:P.length=16) (h0:P[0]?.getD 0=x) (hy:sealW x (sumN P)=y) (hcx:clearS x=x) (hcy:clearS y=x) :
  sealN P=P.set 0 y∧sumN (sealN P)=sumN P:=by
 have h1:sealN P=P.set 0 y:=by
  unfold sealN
  rw[padN_full P hl,h0,hy]
 refine ⟨h1,?_⟩
 have e0:(P.set 0 y)[0]?.getD 0=y:=by
  rw[List.getElem?_set_self (by omega),Option.getD_some]
 have hq:=sumN_def P
 rw[h0,hcx] at hq
 rw[h1,sumN_def (P.set 0 y),e0,hcy,List.set_set,hq]
theorem seal_parts (P:List Nat) (a t:Nat) (ha:a<4294967296) (ht:t<65536) (hl:P.length=16) (h0:P[0]?.getD 0=a+t * 281474976710656) :
  sealN P=P.set 0 (a+sumN P * 4294967296+t * 281474976710656)∧sumN (sealN P)=sumN P:=by
 have hs:=sumN_lt P
 have hc:=clearS_at a 0 t ha (by omega) ht
 rw[Nat.zero_mul,Nat.add_zero] at hc
 exact seal_gen P _ _ hl h0 (sealW_at a (sumN P) t ha hs ht) hc (clearS_at a (sumN P) t ha hs ht)
theorem encTo_at (h:Nat) (l:List (Int × Nat)) (k:Nat) (hk:k≤7) (j:Nat) (hj:j<16) :
  (encTo h l k)[j]?.getD 0=if j=0 then h else if j<1+k then (l[j - 1]?.getD (0,0)).1.toNat else if 8≤j∧j<8+k then (l[j - 8]?.getD (0,0)).2 else 0:=by
 induction k with
 |zero=>
  rw[encTo]
  by_cases h0:j=0
  ·subst h0;rfl
  ·rw[if_neg h0,if_neg (by omega),if_neg (by omega),List.getElem?_set_ne (by omega)]
   rw[List.getElem?_replicate,if_pos hj]
   rfl
 |succ k ih=>
  have ih:=ih (by omega)
  rw[encTo]
  by_cases h8:j=8+k
  ·subst h8
   rw[List.getElem?_set_self (by rw[List.length_set,encTo_length];omega),if_neg (by omega),if_neg (by omega),if_pos ⟨by omega,by omega⟩,show 8+k - 8=k by omega]
   rfl
  ·rw[List.getElem?_set_ne (fun e=>h8 e.symm)]
   by_cases h1:j=1+k
   ·subst h1
    rw[List.getElem?_set_self (by rw[encTo_length];omega),if_neg (by omega),if_pos (by omega),show 1+k - 1=k by omega]
    rfl
   ·rw[List.getElem?_set_ne (fun e=>h1 e.symm),ih]
    by_cases h0:j=0
    ·rw[if_pos h0,if_pos h0]
    ·rw[if_neg h0,if_neg h0]
     by_cases h2:j<1+k
     ·rw[if_pos h2,if_pos (show j<1+(k+1) by omega)]
     ·rw[if_neg h2,if_neg (show¬j<1+(k+1) by omega)]
      by_cases h3:8≤j∧j<8+k
      ·rw[if_pos h3,if_pos (show 8≤j∧j<8+(k+1) by omega)]
      ·rw[if_neg h3,if_neg (show¬(8≤j∧j<8+(k+1)) by omega)]
theorem encP_at (lv sq:Int) (l:List (Int × Nat)) (block:Int) (hl:l.length≤7) (j:Nat) (hj:j<15) :
  (encP lv sq l block)[j]?.getD 0=if j=0 then hdN 2 lv l.length block else if j<1+l.length then (l[j - 1]?.getD (0,0)).1.toNat else if 8≤j∧j<8+l.length then (l[j - 8]?.getD (0,0)).2 else 0:=by
 unfold encP
 rw[List.getElem?_set_ne (by omega),encTo_at _ _ _ hl _ (by omega)]
theorem encP_15 (lv sq:Int) (l:List (Int × Nat)) (block:Int):(encP lv sq l block)[15]?.getD 0=sq.toNat:=by
 unfold encP
 rw[List.getElem?_set_self (by rw[encTo_length];omega)]
 rfl
theorem enc_facts (lv sq:Int) (l:List (Int × Nat)) (block:Int) (hv:validN lv sq l=0) (h1:0≤block) (h2:block<4096) :
  ∃s,s<65536∧s=sumN (encN lv sq l block)∧(encN lv sq l block)[0]?.getD 0=(2+lv.toNat * 16+l.length * 256+block.toNat * 4096)+s * 4294967296+19796 * 281474976710656∧
   (∀j,0<j→(encN lv sq l block)[j]?.getD 0=(encP lv sq l block)[j]?.getD 0):=by
 obtain ⟨q1,q2,q3,q4,q5,q6⟩:=(valid_iff lv sq l).1 hv
 have hh:hdN 2 lv l.length block=(2+lv.toNat * 16+l.length * 256+block.toNat * 4096)+19796 * 281474976710656:=by
  unfold hdN;omega
 have h0:=encP_at lv sq l block q5 0 (by omega)
 rw[if_pos rfl,hh] at h0
 obtain ⟨e1,e2⟩:=seal_parts (encP lv sq l block) (2+lv.toNat * 16+l.length * 256+block.toNat * 4096) 19796 (by omega) (by omega) (encP_length _ _ _ _) h0
 refine ⟨sumN (encP lv sq l block),sumN_lt _,e2.symm,?_,?_⟩
 ·show (sealN _)[0]?.getD 0=_
  rw[e1,List.getElem?_set_self (by rw[encP_length];omega)]
  rfl
 ·intro j hj
  show (sealN _)[j]?.getD 0=_
  rw[e1,List.getElem?_set_ne (by omega)]
theorem sealed_enc (lv sq:Int) (l:List (Int × Nat)) (block b2:Int) (hv:validN lv sq l=0) (h1:0≤block) (h2:block<4096) :
  sealedN (encN lv sq l block) 2 b2=if block≠b2 then 24 else 0:=by
 obtain ⟨q1,q2,q3,q4,q5,q6⟩:=(valid_iff lv sq l).1 hv
 obtain ⟨s,hs,e1,e2,e3⟩:=enc_facts lv sq l block hv h1 h2
 unfold sealedN
 rw[if_neg (by rw[encN_length];omega),e2,if_neg (by omega),←e1,if_neg (by omega)]
 have hb:((((2+lv.toNat * 16+l.length * 256+block.toNat * 4096)+s * 4294967296+19796 * 281474976710656) / 4096 % 1048576:Nat):Int)=block:=by omega
 rw[hb]
theorem decode_enc (lv sq:Int) (l:List (Int × Nat)) (block:Int) (hl:E64 l) (hv:validN lv sq l=0) (h1:0≤block) (h2:block<4096) :
  decE (encN lv sq l block) block=0∧decLv (encN lv sq l block) block=lv∧decSq (encN lv sq l block) block=sq∧decL (encN lv sq l block) block=l:=by
 obtain ⟨q1,q2,q3,q4,q5,q6⟩:=(valid_iff lv sq l).1 hv
 obtain ⟨s,hs,e1,e2,e3⟩:=enc_facts lv sq l block hv h1 h2
 have hS:sealedN (encN lv sq l block) 2 block=0:=by rw[sealed_enc lv sq l block block hv h1 h2,if_neg (by omega)]
 have hc:cntN (encN lv sq l block)=l.length:=by unfold cntN;rw[e2];omega
 have hL:lvN (encN lv sq l block)=lv.toNat:=by unfold lvN;rw[e2];omega
 have hQ:sqN (encN lv sq l block)=sq.toNat:=by unfold sqN;rw[e3 15 (by omega),encP_15]
 have hent:∀i,i<l.length→entAt (encN lv sq l block) i=l[i]?.getD (0,0):=by
  intro i hi
  have hk:=ascF_at (-1) l i q6 hi
  unfold entAt
  rw[e3 (1+i) (by omega),e3 (8+i) (by omega),encP_at _ _ _ _ q5 _ (by omega),encP_at _ _ _ _ q5 _ (by omega)]
  rw[if_neg (show¬1+i=0 by omega),if_pos (show 1+i<1+l.length by omega),if_neg (show¬8+i=0 by omega),if_neg (show¬8+i<1+l.length by omega),if_pos (show 8≤8+i∧8+i<8+l.length by omega)]
  rw[show 1+i - 1=i by omega,show 8+i - 8=i by omega]
  apply Prod.ext
  ·simp only[];omega
  ·rfl
 have hup:upto (entAt (encN lv sq l block)) l.length=l:=by
  apply List.ext_getElem (by rw[upto_length])
  intro i h3 h4
  have:=hent i h4
  rw[List.getElem?_eq_getElem h4] at this
  simp only[upto,List.getElem_map,List.getElem_range]
  exact this
 have hok:okAll (encN lv sq l block) l.length=true:=by
  refine okAll_of fun i hi=>?_
  unfold okAt
  rw[decide_eq_true_eq,e3 (1+i) (by omega),e3 (8+i) (by omega),encP_at _ _ _ _ q5 _ (by omega),encP_at _ _ _ _ q5 _ (by omega)]
  rw[if_neg (show¬1+i=0 by omega),if_neg (show¬8+i=0 by omega)]
  by_cases hi2:i<l.length
  ·have hk:=ascF_at (-1) l i q6 hi2
   rw[if_pos (show 1+i<1+l.length by omega),show 1+i - 1=i by omega]
   exact ⟨by omega,fun h=>absurd h (by omega)⟩
  ·rw[if_neg (show¬1+i<1+l.length by omega),if_neg (show¬(8≤1+i∧1+i<8+l.length) by omega),if_neg (show¬8+i<1+l.length by omega),if_neg (show¬(8≤8+i∧8+i<8+l.length) by omega)]
   exact ⟨by omega,fun _=>⟨rfl,rfl⟩⟩
 have hvv:validN (lvN (encN lv sq l block)) (sqN (encN lv sq l block)) (upto (entAt (encN lv sq l block)) (cntN (encN lv sq l block)))=0:=by
  rw[hc,hup,hL,hQ,show ((lv.toNat:Nat):Int)=lv by omega,show ((sq.toNat:Nat):Int)=sq by omega]
  exact hv
 have hE:decE (encN lv sq l block) block=0:=by
  unfold decE
  rw[if_neg (by omega),hvv,hc,hok,if_neg (by rw[hQ];omega),if_neg (by simp),if_neg (by omega)]
 refine ⟨hE,?_,?_,?_⟩
 ·unfold decLv;rw[if_pos hE,hL];omega
 ·unfold decSq;rw[if_pos hE,hQ];omega
 ·unfold decL;rw[if_pos hE,hc,hup]
end
section
open Go.RowKit
attribute [local go_sem] Oper.semAt_some
def arB (data:Nat):Nat:=(data+63) / 64
def szM (data:Int):Int:=if data<1∨16384<data then 0 else (2 * (arB data.toNat:Int)+49) * 16
def sum1 (x:Nat):Nat:=shortC (extendC 0 [x])
theorem sum1_lt (x:Nat):sum1 x<65536:=shortC_lt _
def cwB (r s:Nat):Nat:=r % 1048576+s % 16777216 * 1048576+9 * 1152921504606846976
def cwW (r s:Nat):Nat:=cwB r s+sum1 (cwB r s) * 17592186044416
theorem cwB_lt (r s:Nat):cwB r s<18446744073709551616:=by unfold cwB;omega
theorem cwW_lt (r s:Nat):cwW r s<18446744073709551616:=by
 have:=sum1_lt (cwB r s)
 unfold cwW
 generalize sum1 (cwB r s)=q at *
 unfold cwB
 omega
theorem rareas_any (data:Nat) (W:World) (hd:data≤1000000) :
  Calls Tryz.prog 48 #[.int .i64 (data:Int)] W fun e w'=>e=.returned (.int .i64 (arB data:Int))∧W=w':=by
 have e1:IntKind.i64.wrap ((data:Int)+63)=(data:Int)+63:=IntWalk.i64_in _ (by omega)
 have HA:Hid (((data:Int)+63) / 64=(arB data:Int)):=by show _=_;unfold arB;omega
 go_enter Tryz.func48,Tryz.ntmps48
 go_wp2_with fail
 go_ret
 exact ⟨by rw[←HA.out];rfl,rfl⟩
theorem rsize27_any (data:Int) (W:World) :
  Calls Tryz.prog 35 #[.int .i64 data] W fun e w'=>e=.returned (.int .i64 (szM data))∧W=w':=by
 by_cases h1:data<1
 ·have HE:Hid (szM data=0):=by show _=_;unfold szM;rw[if_pos (.inl h1)]
  go_enter Tryz.func35,Tryz.ntmps35
  go_wp2_with fail
  go_ret
  exact ⟨by rw[HE.out];rfl,rfl⟩
 ·by_cases h2:16384<data
  ·have HE:Hid (szM data=0):=by show _=_;unfold szM;rw[if_pos (.inr h2)]
   go_enter Tryz.func35,Tryz.ntmps35
   go_wp2_with fail
   go_ret
   exact ⟨by rw[HE.out];rfl,rfl⟩
  ·obtain ⟨n,rfl⟩ :∃n:Nat,data=n:=⟨data.toNat,by omega⟩
   have HE:Hid (szM (n:Int)=(2 * (arB n:Int)+49) * 16):=by show _=_;unfold szM;rw[if_neg (by omega),Int.toNat_natCast]
   have HA:=Hi (rareas_any n W (by omega))
   have hb:arB n≤1000:=by unfold arB;omega
   obtain ⟨a,ha⟩ :∃a,arB n=a:=⟨_,rfl⟩
   rw[ha] at HE HA hb
   clear ha
   have e1:IntKind.i64.wrap (2 * (a:Int))=2 * (a:Int):=IntWalk.i64_in _ (by omega)
   have e2:IntKind.i64.wrap (2 * (a:Int)+1)=2 * (a:Int)+1:=IntWalk.i64_in _ (by omega)
   have e3:IntKind.i64.wrap (2 * (a:Int)+1+48)=2 * (a:Int)+49:=by rw[IntWalk.i64_in _ (by omega)];omega
   have e4:IntKind.i64.wrap ((2 * (a:Int)+49) * 16)=(2 * (a:Int)+49) * 16:=IntWalk.i64_in _ (by omega)
   go_enter Tryz.func35,Tryz.ntmps35
   go_wp2_with fail
   refine HA.out.mono ?_
   rintro e w' ⟨rfl,rfl⟩
   go_wp2_with fail
   go_ret
   exact ⟨by rw[HE.out];rfl,rfl⟩
theorem low20 (x:Nat):bits BinOp.and IntKind.u64 (IntKind.u64.wrap (x:Int)) 1048575=((x % 1048576:Nat):Int):=by
 have h:=low_bits (x:Int) 20 (by omega)
 rw[show ((2 ^ 20 - 1:Nat):Int)=1048575 from rfl] at h
 rw[h]
 simp only[Nat.reducePow]
 omega
theorem low24 (x:Nat):bits BinOp.and IntKind.u64 (IntKind.u64.wrap (x:Int)) 16777215=((x % 16777216:Nat):Int):=by
 have h:=low_bits (x:Int) 24 (by omega)
 rw[show ((2 ^ 24 - 1:Nat):Int)=16777215 from rfl] at h
 rw[h]
 simp only[Nat.reducePow]
 omega
theorem orN (a b n:Nat) (ha:a<2 ^ n) (hab:a+b * 2 ^ n<18446744073709551616):bits BinOp.or IntKind.u64 (a:Int) ((b * 2 ^ n:Nat):Int)=((a+b * 2 ^ n:Nat):Int):=by
 rw[u64_or_nat _ _ (by omega) (by omega),or_fits _ _ _ ha]
theorem rword27_any (r s:Nat) (W:World) :
  Calls Tryz.prog 55 #[.int .i64 (r:Int),.int .i64 (s:Int)] W fun e w'=>e=.returned (.int .u64 ((cwW r s:Nat):Int))∧Below W.heap.size W w':=by
 have e1:=low20 r
 have e2:=low24 s
 have hr:r % 1048576<1048576:=Nat.mod_lt _ (by omega)
 have hs:s % 16777216<16777216:=Nat.mod_lt _ (by omega)
 have HC:Hid (cwW r s=cwB r s+sum1 (cwB r s) * 17592186044416):=rfl
 have HB:Hid (cwB r s=r % 1048576+s % 16777216 * 1048576+9 * 1152921504606846976):=rfl
 have HL:=Hi (cwB_lt r s)
 have hq:cwB r s % 17592186044416+cwB r s / 17592186044416 * 17592186044416=cwB r s:=by omega
 generalize r % 1048576=a at *
 generalize s % 16777216=b at *
 have e3:IntKind.u64.wrap ((b:Int) * 1048576)=(b:Int) * 1048576:=by rw[show (b:Int) * 1048576=((b * 1048576:Nat):Int) by omega,wrap_nat,Nat.mod_eq_of_lt (by omega)]
 obtain ⟨m,hm⟩ :∃m,a+b * 1048576=m:=⟨_,rfl⟩
 have e4:bits .or .u64 (a:Int) ((b:Int) * 1048576)=(m:Int):=by
  have:=orN a b 20 hr (by omega)
  rw[←hm]
  exact this
 have e5:bits .or .u64 (m:Int) 10376293541461622784=((m+9 * 1152921504606846976:Nat):Int):=orN _ 9 60 (by omega) (by omega)
 rw[hm] at HB
 rw[←HB.out] at e5
 have e6:∀q:Nat,q<65536→bits .or .u64 ((cwB r s:Nat):Int) ((q:Int) * 17592186044416)=((cwB r s+q * 17592186044416:Nat):Int):=by
  intro q hq
  have hlo:m<2 ^ 44:=by omega
  have h1:(m+9 * 2 ^ 60) ||| (q * 2 ^ 44)=m+q * 2 ^ 44+9 * 2 ^ 60:=by
   rw[←or_fits m 9 60 (by omega),Nat.or_assoc,Nat.or_comm (9 * 2 ^ 60),←Nat.or_assoc,or_fits m q 44 hlo,or_fits _ 9 60 (by omega)]
  rw[show (q:Int) * 17592186044416=((q * 17592186044416:Nat):Int) by omega,u64_or_nat _ _ HL.out (by omega),HB.out]
  have h2:(m+9 * 1152921504606846976) ||| (q * 17592186044416)=m+9 * 1152921504606846976+q * 17592186044416:=Eq.trans h1 (by omega)
  rw[h2]
 clear hm
 generalize cwB r s=c at *
 have hR:=Reads.new W #[.int .u64 (c:Int)] 39
 have hb:Below W.heap.size W (W.alloc (.cells #[.int .u64 (c:Int)] 39)):=(Below.refl _ W).alloc (Nat.le_refl _) _
 have HU:=Hi (show Reads (W.alloc (.cells #[.int .u64 (c:Int)] 39)) (some ⟨W.heap.size,0,none⟩) (uv [c]) from hR)
 have E6:=Hi e6
 clear hR e6 hq
 have hcl:=HL.out
 go_enter Tryz.func55,Tryz.ntmps55
 go_wp2_with fail
 refine (refWords_sum (some ⟨W.heap.size,0,none⟩) 1 1 [c] _ rfl HU.out (by intro y hy;simp at hy;omega) (by omega)).mono ?_
 rintro e w1 ⟨rfl,rfl⟩
 have hext:=extendC_lt 0 [c]
 have HS:Hid (sum1 c=shortC (extendC 0 [c])):=rfl
 generalize extendC 0 [c]=ex at *
 go_wp2_with fail
 refine (refShort_any ex _ hext).mono ?_
 rintro e w2 ⟨rfl,rfl⟩
 rw[←HS.out]
 have hs2:=sum1_lt c
 have ho:=E6.out (sum1 c) hs2
 have e7:IntKind.u64.wrap ((sum1 c:Int) * 17592186044416)=(sum1 c:Int) * 17592186044416:=by
  rw[show (sum1 c:Int) * 17592186044416=((sum1 c * 17592186044416:Nat):Int) by omega,wrap_nat,Nat.mod_eq_of_lt (by omega)]
 generalize sum1 c=q at *
 go_wp2_with fail
 go_ret
 refine ⟨ret_int ?_,hb⟩
 rw[HC.out]
 omega
theorem rfrom27_core (w a b:Nat) (o:Bool) (W:World) (e1:bits BinOp.and IntKind.u64 (w:Int) 1048575=(a:Int)) (e2:bits BinOp.and IntKind.u64 ((w:Int) / 1048576) 16777215=(b:Int)) (ha:a<1048576) (hb:b<16777216) (ho:((w:Int) == ((cwW a b:Nat):Int))=o) :
  Calls Tryz.prog 14 #[.int .u64 (w:Int)] W fun e w'=>e=.returned (.tuple #[.int .i64 (a:Int),.int .i64 (b:Int),.bool o])∧Below W.heap.size W w':=by
 have n1:IntKind.i64.wrap (a:Int)=a:=IntWalk.i64_in _ (by omega)
 have n2:IntKind.i64.wrap (b:Int)=b:=IntWalk.i64_in _ (by omega)
 have HW:=Hi (rword27_any a b W)
 generalize cwW a b=x at *
 go_enter Tryz.func14,Tryz.ntmps14
 go_wp2_with fail
 refine HW.out.mono ?_
 rintro e w1 ⟨rfl,hb⟩
 go_wp2_with fail
 exact bodyPost_ret (v:=.tuple #[.int .i64 (a:Int),.int .i64 (b:Int),.bool o]) (by simp[results,Tryz.f14,go_sem]) rfl ⟨rfl,hb⟩
def cwOk (w:Nat):Bool:=decide (w=cwW (w % 1048576) (w / 1048576 % 16777216))
theorem rfrom27_any (w:Nat) (W:World) (hw:w<18446744073709551616) :
  Calls Tryz.prog 14 #[.int .u64 (w:Int)] W fun e w'=>e=.returned (.tuple #[.int .i64 ((w % 1048576:Nat):Int),.int .i64 ((w / 1048576 % 16777216:Nat):Int),.bool (cwOk w)])∧Below W.heap.size W w':=by
 have e1:=low20 w
 rw[show IntKind.u64.wrap (w:Int)=(w:Int) by rw[wrap_nat,Nat.mod_eq_of_lt hw]] at e1
 have e2:=low24 (w / 1048576)
 rw[show IntKind.u64.wrap ((w / 1048576:Nat):Int)=((w / 1048576:Nat):Int) by rw[wrap_nat,Nat.mod_eq_of_lt (by omega)],Int.natCast_ediv] at e2
 refine rfrom27_core w _ _ _ W e1 e2 (by omega) (by omega) ?_
 unfold cwOk
 rw[Bool.eq_iff_iff]
 simp only[beq_iff_eq,decide_eq_true_eq]
 omega
def dvV (r t m:Nat):Nat:=r+t * 1048576+m * 1099511627776
def mpV (d t:Nat):Nat:=d+t * 16777216
end
section
open Go.RowKit
attribute [local go_sem] Oper.semAt_some
def arS (l a:List Nat) (k:Nat):List Nat:=a.set (k / 4) ((a[k / 4]?.getD 0) ||| ((l[k]?.getD 0) <<< (16 * (k % 4))))
def arTo (l:List Nat):Nat→List Nat
 |0=>List.replicate (arB l.length * 16) 0
 |k+1=>arS l (arTo l k) k
def arW (l:List Nat):List Nat:=arTo l l.length
def ctAt (ws:List Nat) (i:Nat):Nat:=((ws[i / 4]?.getD 0) >>> (16 * (i % 4))) % 65536
def ctsN (ws:List Nat) (n:Nat):List Nat:=(List.range n).map (ctAt ws)
theorem arS_len (l a:List Nat) (k:Nat):(arS l a k).length=a.length:=by simp[arS]
theorem arTo_len (l:List Nat):∀k,(arTo l k).length=arB l.length * 16
 |0=>by simp[arTo]
 |k+1=>by rw[arTo,arS_len,arTo_len l k]
theorem arW_len (l:List Nat):(arW l).length=arB l.length * 16:=arTo_len l _
theorem ar_in {n k:Nat} (h:k<n):k / 4<arB n * 16:=by unfold arB;omega
theorem arTo_bit (l:List Nat) (hs:∀x∈l,x≤65535):∀k,k≤l.length→∀j t b,t<4→b<16→((arTo l k)[j]?.getD 0).testBit (16 * t+b)=(decide (4 * j+t<k) && (l[4 * j+t]?.getD 0).testBit b):=by
 intro k
 induction k with
 |zero=>
  intro _ j t b ht hb
  have h0:(List.replicate (arB l.length * 16) 0)[j]?.getD 0=0:=by
   rw[List.getElem?_replicate]
   split <;> rfl
  rw[arTo,h0]
  simp
 |succ k ih=>
  intro hk j t b ht hb
  have IH:=ih (by omega) j t b ht hb
  rw[arTo,arS,List.getElem?_set]
  by_cases hj:k / 4=j
  ·subst hj
   rw[if_pos rfl,if_pos (by rw[arTo_len];exact ar_in (by omega)),Option.getD_some,Nat.testBit_or,IH,Nat.testBit_shiftLeft]
   by_cases e:t=k % 4
   ·subst e
    have e1:4 * (k / 4)+k % 4=k:=by omega
    rw[e1]
    simp
   ·rcases Nat.lt_or_ge t (k % 4) with h|h
    ·have d1:¬16 * (k % 4)≤16 * t+b:=by omega
     have d2:(4 * (k / 4)+t<k+1)=(4 * (k / 4)+t<k):=by rw[eq_iff_iff];omega
     simp[d1,d2]
    ·have hx:(l[k]?.getD 0).testBit (16 * t+b - 16 * (k % 4))=false:=by
      refine Nat.testBit_lt_two_pow (Nat.lt_of_lt_of_le (show _<2 ^ 16 from ?_) (Nat.pow_le_pow_right (by omega) (by omega)))
      rw[List.getElem?_eq_getElem (by omega),Option.getD_some]
      have:=hs _ (List.getElem_mem (show k<l.length by omega))
      omega
     have d2:(4 * (k / 4)+t<k+1)=(4 * (k / 4)+t<k):=by rw[eq_iff_iff];omega
     simp[hx,d2]
  ·rw[if_neg hj,IH]
   have d2:(4 * j+t<k+1)=(4 * j+t<k):=by rw[eq_iff_iff];omega
   simp[d2]
theorem arTo_w (l:List Nat) (hs:∀x∈l,x≤65535):∀k,k≤l.length→W64 (arTo l k)
 |0,_=>fun x hx=>by rw[arTo] at hx;have:=List.eq_of_mem_replicate hx;omega
 |k+1,hk=>by
  have ih:=arTo_w l hs k (by omega)
  intro x hx
  rw[arTo,arS] at hx
  rcases List.mem_or_eq_of_mem_set hx with h|h
  ·exact ih x h
  ·rw[h]
   have h1:(l[k]?.getD 0)≤65535:=by
    rw[List.getElem?_eq_getElem (by omega),Option.getD_some]
    exact hs _ (List.getElem_mem _)
   have h2:(l[k]?.getD 0) <<< (16 * (k % 4))<2 ^ 64:=by
    rw[Nat.shiftLeft_eq]
    have q:(2:Nat) ^ (16 * (k % 4))≤2 ^ 48:=Nat.pow_le_pow_right (by omega) (by omega)
    have:=Nat.mul_le_mul h1 q
    omega
   exact Nat.or_lt_two_pow (ih.at _) h2
theorem arW_w (l:List Nat) (hs:∀x∈l,x≤65535):W64 (arW l):=arTo_w l hs _ (Nat.le_refl _)
theorem ctAt_arW (l:List Nat) (hs:∀x∈l,x≤65535) {i:Nat} (hi:i<l.length):ctAt (arW l) i=l[i]?.getD 0:=by
 have h1:(l[i]?.getD 0)≤65535:=by
  rw[List.getElem?_eq_getElem hi,Option.getD_some]
  exact hs _ (List.getElem_mem _)
 unfold ctAt
 apply Nat.eq_of_testBit_eq
 intro b
 rw[show 65536=2 ^ 16 from rfl,Nat.testBit_mod_two_pow,Nat.testBit_shiftRight]
 by_cases hb:b<16
 ·rw[arW,arTo_bit l hs _ (Nat.le_refl _) _ _ _ (by omega) hb]
  have e1:4 * (i / 4)+i % 4=i:=by omega
  rw[e1]
  simp[hb,hi]
 ·have:=Nat.testBit_lt_two_pow (x:=l[i]?.getD 0) (i:=b) (Nat.lt_of_lt_of_le (show _<2 ^ 16 by omega) (Nat.pow_le_pow_right (by omega) (by omega)))
  rw[this]
  simp[hb]
theorem cts_arW (l:List Nat) (hs:∀x∈l,x≤65535):ctsN (arW l) l.length=l:=by
 apply List.ext_getElem?
 intro i
 unfold ctsN
 rw[List.getElem?_map]
 by_cases hi:i<l.length
 ·rw[List.getElem?_range hi,Option.map_some,ctAt_arW l hs hi,List.getElem?_eq_getElem hi]
  rfl
 ·rw[List.getElem?_eq_none (by simpa using hi),List.getElem?_eq_none (by omega)]
  rfl
theorem own_keepU' {w w':World} {base n:Nat} {e:TypeId} {size:Nat} {v:Value} {xs:List Value} (h:w.ownsRow base e size v n xs) (hb:Below w.heap.size w w'):w'.ownsRow base e size v n xs:=own_fr h (Fr.of_below (G:=fun _=>False) hb) (fun _ _ q=>q)
theorem ctAt_lt (ws:List Nat) (i:Nat):ctAt ws i<65536:=Nat.mod_lt _ (by omega)
theorem rareawords_any (A:Option Addr) (n c:Nat) (l:List Nat) (W:World) (hn:l.length=n) (hA:Reads W A (nv l)) (hs:∀x∈l,x≤65535) (hl:n≤16384) (h1:1≤n) :
  Calls Tryz.prog 21 #[.slice A n c] W fun e w'=>∃g,e=.returned (.slice (some ⟨g,0,none⟩) (arB n * 16) (arB n * 16))∧w'.ownsRow W.heap.size 39 1 (.slice (some ⟨g,0,none⟩) (arB n * 16) (arB n * 16)) (arB n * 16) (uv (arW l))∧Below W.heap.size W w':=by
 obtain ⟨i0,hi0,hz0,hz1,hz2⟩:=info_parts u64_info
 have HAR:=Hi (rareas_any n W (by omega))
 have HIN:=Hi (fun k (hk:k<n)=>ar_in hk)
 have hab:arB n≤1000:=by unfold arB;omega
 have hab1:1≤arB n:=by unfold arB;omega
 have HL:Hid (∀k,(arTo l k).length=arB n * 16):=fun k=>by rw[arTo_len,hn]
 have HZ:Hid (arTo l 0=List.replicate (arB n * 16) 0):=by show _=_;rw[arTo,hn]
 have HW:Hid (∀k,k≤n→W64 (arTo l k)):=fun k hk=>arTo_w l hs k (by omega)
 have HF:Hid (arW l=arTo l n):=by show _=_;rw[arW,hn]
 have HX:Hid (∀k,k<n→l[k]?.getD 0≤65535):=fun k hk=>by
  rw[List.getElem?_eq_getElem (by omega),Option.getD_some]
  exact hs _ (List.getElem_mem _)
 obtain ⟨g0,off,rfl,hg0,hcl⟩:=hA (by rw[nv_length];omega)
 have HC:Hid (∀k,k<n→W.cell? ⟨g0,off+k,none⟩=some (.int .i64 ((l[k]?.getD 0:Nat):Int))):=fun k hk=>hcl k _ (nv_at l k (by omega))
 obtain ⟨a,ha⟩ :∃a,arB n=a:=⟨_,rfl⟩
 rw[ha] at HAR HIN hab hab1 HL HZ ⊢
 have ea:IntKind.i64.wrap ((a:Int) * 16)=((a * 16:Nat):Int):=by rw[IntWalk.i64_in _ (by omega)];omega
 clear ha hA hs hcl
 have HN:=Hi hn
 clear hn
 go_enter Tryz.func21,Tryz.ntmps21
 go_wp2_with fail
 refine HAR.out.mono ?_
 rintro e w' ⟨rfl,rfl⟩
 go_wp2_with (at_make;refine wpList_make_full _ rfl _ _ _ rfl W.heap.size 39 i0 _ 1 Tryz.underlying27 hi0 hz0 hz1 .i64 .i64 _ _ (a * 16) rfl rfl rfl rfl ?_ ?_ ?_ ?_)
 ·rw[hz2];omega
 ·simp only[maxLen];omega
 ·exact Nat.le_refl _
 intro w1 hown hg
 rw[replicate_uvB,←HZ.out] at hown
 have HB:Hid (Below W.heap.size W w1):=(Below.refl _ W).grown hg (Nat.le_refl _) (by intro k hk;cases hk)
 have HO:=Hi hown
 clear hown hg
 go_wp2_with fail
 go_loopw [4] (fun i w2=>∃k:Nat,k≤n∧i=.int .i64 k∧Hid (w2.ownsRow W.heap.size 39 1 (.slice (some ⟨W.heap.size,0,none⟩) (a * 16) (a * 16)) (a * 16) (uv (arTo l k)))∧Hid (Below W.heap.size W w2)) (fun i _=>n - (intOf i).toNat)
 case atStart=>exact ⟨0,Nat.zero_le _,rfl,HO,HB⟩
 case round=>
  obtain ⟨k,hk,rfl,ho,hb⟩:=hrel
  by_cases hlt:k<n
  ·have hin:=HIN.out k hlt
   have hc:=ho.out.cellAt (k / 4) (by omega)
   rw[uv_at _ _ (by rw[HL.out];exact hin)] at hc
   have hf:=ho.out.frozenAt (k / 4)
   have hc2:=(hb.out.cell (p:=⟨g0,off+k,none⟩) hg0).trans (HC.out k hlt)
   have hx:=HX.out k hlt
   have hy:=(HW.out k (by omega)).at (k / 4)
   obtain ⟨y,ey⟩ :∃y,(arTo l k)[k / 4]?.getD 0=y:=⟨_,rfl⟩
   obtain ⟨x,ex⟩ :∃x,l[k]?.getD 0=x:=⟨_,rfl⟩
   rw[ey] at hc hy
   rw[ex] at hc2 hx
   have EY:=Hi ey
   have EX:=Hi ex
   clear ey ex
   go_wp2_with fail
   go_region
   have hv:bits BinOp.or IntKind.u64 (y:Int) (IntKind.u64.wrap ((x:Int) * 2 ^ (16 * (k % 4))))=((y ||| (x <<< (16 * (k % 4))):Nat):Int):=by
    have q:(2:Nat) ^ (16 * (k % 4))≤2 ^ 48:=Nat.pow_le_pow_right (by omega) (by omega)
    have q2:=Nat.mul_le_mul hx q
    have e2:(x:Int) * 2 ^ (16 * (k % 4))=((x * 2 ^ (16 * (k % 4)):Nat):Int):=by
     rw[Int.natCast_mul,Int.natCast_pow]
     rfl
    rw[e2,wrap_nat,Nat.mod_eq_of_lt (by omega),u64_or_nat _ _ hy (by omega),Nat.shiftLeft_eq]
   rw[hv]
   have hst:=(ho.out.stored (k / 4) (.int .u64 ((y ||| (x <<< (16 * (k % 4))):Nat):Int))).1
   rw[uv_set] at hst
   have e3:(arTo l k).set (k / 4) (y ||| (x <<< (16 * (k % 4))))=arTo l (k+1):=by
    rw[arTo,arS,EY.out,EX.out]
   rw[e3] at hst
   have HST:=Hi hst
   have HB2:=Hi (hb.out.setCell (p:=⟨W.heap.size,k / 4,none⟩) (Nat.le_refl _) (.int .u64 ((y ||| (x <<< (16 * (k % 4))):Nat):Int))).drew
   clear hv hst e3 hc hf hc2 ho hb
   go_wp2_with fail
   go_roundw
   case rel=>exact ⟨k+1,by omega,by go_num,HST,HB2⟩
   case measure=>simp[intOf];omega
  ·obtain rfl:k=n:=by omega
   go_wp2_with fail
   go_ret
   exact ⟨_,rfl,by rw[HF.out];exact ho.out,hb.out⟩
theorem rstored_any (A:Option Addr) (m c n:Nat) (l:List Nat) (W:World) (hm:l.length=m) (hA:Reads W A (uv l)) (hw:W64 l) (hl:n≤16384) (h1:arB n * 16≤m) (hml:m≤1000000) :
  Calls Tryz.prog 19 #[.slice A m c,.int .i64 (n:Int)] W fun e w'=>∃v,e=.returned v∧w'.ownsRow W.heap.size 3 1 v n (nv (ctsN l n))∧Below W.heap.size W w':=by
 obtain ⟨i0,hi0,hz0,hz1,hz2⟩:=info_parts int_info
 have hC:∀k,k<n→∃g off,A=some ⟨g,off,none⟩∧g<W.heap.size∧k / 4<m∧W.cell? ⟨g,off+k / 4,none⟩=some (.int .u64 ((l[k / 4]?.getD 0:Nat):Int)):=fun k hk=>by
  have hin:=ar_in hk
  obtain ⟨g0,off,e,hg0,hcl⟩:=hA (by rw[uv_length];omega)
  exact ⟨g0,off,e,hg0,by omega,hcl _ _ (uv_at l (k / 4) (by omega))⟩
 have HC:=Hi hC
 have HS:Hid (∀k,k<n→ctsN l (k+1)=ctsN l k++ [ctAt l k]):=fun k _=>by unfold ctsN;rw[List.range_succ,List.map_append];rfl
 have HLN:Hid (∀k,(nv (ctsN l k)).length=k):=fun k=>by rw[nv_length];simp[ctsN]
 have HW:=Hi hw
 clear hC hA hw hm h1
 go_enter Tryz.func19,Tryz.ntmps19
 go_wp2_with fail
 go_loopw [5,6] (fun v i w2=>∃k:Nat,k≤n∧i=.int .i64 k∧(∃B b c2,v=.slice B b c2)∧Hid (w2.ownsRow W.heap.size 3 1 v k (nv (ctsN l k)))∧Hid (Below W.heap.size W w2)) (fun _ i _=>n - (intOf i).toNat)
 case atStart=>exact ⟨0,Nat.zero_le _,rfl,⟨_,_,_,rfl⟩,World.ownsRow_nil _ _ _ _,Below.refl _ _⟩
 case round=>
  obtain ⟨k,hk,rfl,⟨B,b,c2,rfl⟩,ho,hb⟩:=hrel
  by_cases hlt:k<n
  ·obtain ⟨g0,off,rfl,hg0,hin,hc⟩:=HC.out k hlt
   have hc2:=(hb.out.cell (p:=⟨g0,off+k / 4,none⟩) hg0).trans hc
   have hx:=HW.out.at (k / 4)
   have HT:Hid (ctAt l k=((l[k / 4]?.getD 0) >>> (16 * (k % 4))) % 65536):=rfl
   obtain ⟨x,ex⟩ :∃x,l[k / 4]?.getD 0=x:=⟨_,rfl⟩
   rw[ex] at hc2 hx hc HT
   clear ex hc
   have hq:bits BinOp.and IntKind.u64 ((x:Int) / 2 ^ (16 * (k % 4))) 65535=((ctAt l k:Nat):Int):=by
    rw[HT.out,Nat.shiftRight_eq_div_pow]
    have e:=and_low (x / 2 ^ (16 * (k % 4))) 16 (by omega) (Nat.lt_of_le_of_lt (Nat.div_le_self _ _) hx)
    rw[Int.natCast_ediv,Int.natCast_pow] at e
    exact e
   have hql:=ctAt_lt l k
   have hsu:=HS.out k hlt
   have e1:nv (ctsN l k++ [ctAt l k])=nv (ctsN l k)++ [.int .i64 (ctAt l k:Int)]:=by unfold nv;rw[List.map_append];rfl
   obtain ⟨q,eq⟩ :∃q,ctAt l k=q:=⟨_,rfl⟩
   rw[eq] at hq hql hsu e1
   have HE1:=Hi e1
   have HSU:=Hi hsu
   have eqi:IntKind.i64.wrap (q:Int)=(q:Int):=IntWalk.i64_in _ (by omega)
   have hb6:Below wr.heap.size wr (wr.alloc (.cells #[.int .i64 (q:Int)] 3)):=(Below.refl _ wr).alloc (Nat.le_refl _) _
   have hrd6:Reads (wr.alloc (.cells #[.int .i64 (q:Int)] 3)) (some ⟨wr.heap.size,0,none⟩) [.int .i64 (q:Int)]:=Reads.new _ _ _
   have hs6:=Nat.le_trans hb.out.size hb6.size
   clear eq hsu e1 HT
   go_wp2_with (at_builtin;refine wpList_append_reads _ (by rfl) _ _ _ (by rfl) W.heap.size 3 i0 _ 1 8 Tryz.underlying22 hi0 hz0 hz1 hz2 (by rfl) (by omega) (.slice B b c2) k (nv (ctsN l k)) (by rfl) (own_keepU' ho.out hb6) (some ⟨wr.heap.size,0,none⟩) 1 1 [.int .i64 (q:Int)] (by rfl) (by rfl) hrd6 (by simp[Value.oneCell']) (by simp only[maxLen];omega) (by omega) hs6 ?_;intro v1 w7 hown7 hg7 hat7;have hbw7:Below W.heap.size W w7:=(hb.out.trans (hb6.mono hb.out.size)).grown hg7 hs6 (own_base ho.out);have HO7:=Hi hown7;have HB7:=Hi hbw7;clear hown7 hg7 hat7 hb6 hrd6 hs6 hbw7)
   obtain ⟨A7,c7,rfl⟩:=own_form HO7.out
   go_wp2_with fail
   go_roundw
   case rel=>
    refine ⟨k+1,by omega,by go_num,⟨_,_,_,rfl⟩,?_,HB7⟩
    rw[HSU.out,HE1.out]
    exact HO7
   case measure=>simp[intOf];omega
  ·obtain rfl:k=n:=by omega
   go_wp2_with fail
   go_ret
   exact ⟨_,rfl,ho.out,hb.out⟩
end
end Go.Proofs.YtplhdjdkobddnaaGreat
