/- Base Crc Bits C1 SumA SumB FieldsP -/
import Derived.WalkKit
import Derived.WalkSpells
import Derived.WalkLawsBesides
import Derived.Lib.Hide
import Derived.Maps.AppendAt
import Derived.Deep.AppendLies
import Derived.RegionTactic
import Derived.OwnWalk
import Derived.Deep.QuietTactic
import Derived.BigQuiet
import Derived.StillTailTactics
import Derived.Deep.RegionLaw
import Derived.Deep.RegionHeld3
import Derived.Laws.CopyOwn
import Derived.OpenShut
import Derived.Test.YtplhdjdkobddnaaGreatRows
import Derived.Deep.MidRow
set_option linter.unusedVariables false
set_option maxRecDepth 100000
set_option maxHeartbeats 40000000
namespace Go.Proofs.YtplhdjdkobddnaaGreat
theorem Hi {p : Prop} (h : p) : Go.RowKit.Hid p := Go.Lib.hid h
section
open Go.RowKit
theorem ret_int {k:IntKind} {a b:Int} (h:a=b):Ending.returned (.int k a)=.returned (.int k b):=by rw[h]
theorem ret_bool {a b:Bool} (h:a=b):Ending.returned (.bool a)=.returned (.bool b):=by rw[h]
theorem val_int {k:IntKind} {a b:Int} (h:a=b):Value.int k a=.int k b:=by rw[h]
def Reads (w:World) (A:Option Addr) (vs:List Value):Prop:=
 vs.length≠0→∃b off,A=some ⟨b,off,none⟩∧b<w.heap.size∧∀i v,vs[i]? =some v→w.cell? ⟨b,off+i,none⟩=some v
theorem Reads.keep {w w':World} {A:Option Addr} {vs:List Value} (h:Reads w A vs) (hb:Below w.heap.size w w'):Reads w' A vs:=by
 intro hz
 obtain ⟨b,off,e,hlt,hc⟩:=h hz
 exact ⟨b,off,e,Nat.lt_of_lt_of_le hlt hb.size,fun i v hi=>(hb.cell (p:=⟨b,off+i,none⟩) hlt).trans (hc i v hi)⟩
theorem Reads.drewN {w:World} {A:Option Addr} {vs:List Value} (h:Reads w A vs) (n:Nat):Reads (w.drewN n) A vs:=h
theorem Reads.nil {w:World} {A:Option Addr}:Reads w A []:=fun h=>absurd rfl h
theorem Reads.take' {w:World} {A:Option Addr} {vs:List Value} (h:Reads w A vs) (n:Nat):Reads w A (vs.take n):=by
 intro hz
 obtain ⟨b,off,e,hb,hc⟩:=h (by intro e;apply hz;simp[e])
 refine ⟨b,off,e,hb,fun i v hi=>hc i v ?_⟩
 have hlt:=(List.getElem?_eq_some_iff.1 hi).1
 rw[List.getElem?_take,if_pos (by simp at hlt;omega)] at hi
 exact hi
def uv (l:List Nat):List Value:=l.map fun n:Nat=>.int .u64 (n:Int)
def iv (l:List Int):List Value:=l.map fun n=>.int .i64 n
def W64 (l:List Nat):Prop:=∀x∈l,x<18446744073709551616
def I64 (l:List Int):Prop:=∀x∈l,-9223372036854775808≤x∧x≤9223372036854775807
theorem uv_length (l:List Nat):(uv l).length=l.length:=by simp[uv]
theorem iv_length (l:List Int):(iv l).length=l.length:=by simp[iv]
theorem uv_append (l m:List Nat):uv (l++m)=uv l++uv m:=by simp[uv]
theorem uv_at (l:List Nat) (i:Nat) (h:i<l.length):(uv l)[i]? =some (.int .u64 ((l[i]?.getD 0:Nat):Int)):=by simp[uv,h]
theorem iv_at (l:List Int) (i:Nat) (h:i<l.length):(iv l)[i]? =some (.int .i64 (l[i]?.getD 0)):=by simp[iv,h]
theorem uv_one (l:List Nat):∀u∈uv l,u.oneCell'=true:=by
 intro u hu
 obtain ⟨x,_,rfl⟩:=List.mem_map.1 hu
 rfl
theorem W64.at {l:List Nat} (h:W64 l) (i:Nat):l[i]?.getD 0<18446744073709551616:=by
 rcases Nat.lt_or_ge i l.length with hi|hi
 ·rw[List.getElem?_eq_getElem hi];exact h _ (List.getElem_mem hi)
 ·rw[List.getElem?_eq_none hi];decide
theorem W64.set {l:List Nat} (h:W64 l) (i x:Nat) (hx:x<18446744073709551616):W64 (l.set i x):=by
 intro y hy
 rcases List.mem_or_eq_of_mem_set hy with hm|rfl
 ·exact h y hm
 ·exact hx
theorem I64.at {l:List Int} (h:I64 l) (i:Nat): -9223372036854775808≤l[i]?.getD 0∧l[i]?.getD 0≤9223372036854775807:=by
 rcases Nat.lt_or_ge i l.length with hi|hi
 ·rw[List.getElem?_eq_getElem hi];exact h _ (List.getElem_mem hi)
 ·rw[List.getElem?_eq_none hi];decide
theorem Reads.u {w:World} {A:Option Addr} {l:List Nat} (h:Reads w A (uv l)) (hl:l.length≠0) :
  ∃b off,A=some ⟨b,off,none⟩∧b<w.heap.size∧∀i,i<l.length→w.cell? ⟨b,off+i,none⟩=some (.int .u64 ((l[i]?.getD 0:Nat):Int)):=by
 obtain ⟨b,off,e,hb,hc⟩:=h (by rw[uv_length];exact hl)
 exact ⟨b,off,e,hb,fun i hi=>hc i _ (uv_at l i hi)⟩
theorem Reads.i {w:World} {A:Option Addr} {l:List Int} (h:Reads w A (iv l)) (hl:l.length≠0) :
  ∃b off,A=some ⟨b,off,none⟩∧b<w.heap.size∧∀i,i<l.length→w.cell? ⟨b,off+i,none⟩=some (.int .i64 (l[i]?.getD 0)):=by
 obtain ⟨b,off,e,hb,hc⟩:=h (by rw[iv_length];exact hl)
 exact ⟨b,off,e,hb,fun i hi=>hc i _ (iv_at l i hi)⟩
theorem Reads.of_own {w:World} {base:Nat} {e:TypeId} {size n c:Nat} {A:Option Addr} {xs:List Value} (h:w.ownsRow base e size (.slice A n c) n xs):Reads w A xs:=by
 intro hz
 rcases h.2 with ⟨_,h2⟩| ⟨g,cap,cur,hv,_,hg,_⟩
 ·exact absurd (by rw[h.1,h2];simp) hz
 ·have hA:A=some ⟨g,0,none⟩:=by injection hv
  subst hA
  refine ⟨g,0,rfl,(Array.getElem?_eq_some_iff.1 hg).1,fun i v hi=>?_⟩
  have:=h.cells (g:=g) rfl i v hi
  rwa[Addr.add_lit] at this
theorem Reads.new (w:World) (cs:Array Value) (t:TypeId):Reads (w.alloc (.cells cs t)) (some ⟨w.heap.size,0,none⟩) cs.toList:=by
 intro _
 refine ⟨w.heap.size,0,rfl,by simp,fun i v hi=>?_⟩
 rw[World.cell?_alloc_at _ _ _ _ rfl,Nat.zero_add]
 simpa using hi
theorem Reads.alloc {w:World} {A:Option Addr} {vs:List Value} (h:Reads w A vs) (o:Obj):Reads (w.alloc o) A vs:=h.keep ((Below.refl _ _).alloc (Nat.le_refl _) _)
theorem own_form {w:World} {base:Nat} {e:TypeId} {size n:Nat} {v:Value} {xs:List Value} (h:w.ownsRow base e size v n xs):∃A c,v=.slice A n c:=by
 rcases h.2 with ⟨hv,h2⟩| ⟨g,cap,cur,hv,_⟩
 ·exact ⟨none,0,by rw[hv,h2]⟩
 ·exact ⟨_,cap,hv⟩
section
variable {P:Program} (w:World)
theorem run_append_of_nil (base:Nat) (t ty e:TypeId) (i:TypeInfo) (size:Nat) (ht:P.underlying t=some (.slice e)) (hi:P.info? e=some i)
  (v:Value) (n:Nat) (xs:List Value) (hown:w.ownsRow base e size v n xs) (c:Nat):(Builtin.append_ #[t,t] ty #[v,.slice none 0 c]).run P w=.ok v w:=by
 rcases hown.2 with ⟨rfl,rfl⟩| ⟨g,cap,cur,rfl,_,_,hnc,_⟩
 ·simp[Builtin.append_,run_underlying ht,sizeOf,typeInfo,hi,Builtin.lenOf,Builtin.firstCells]
 ·simp[Builtin.append_,run_underlying ht,sizeOf,typeInfo,hi,Builtin.lenOf,Builtin.firstCells,hnc,storeCells]
theorem run_append_reads (base:Nat) (t ty e:TypeId) (i:TypeInfo) (z:Value) (size bytes:Nat) (ht:P.underlying t=some (.slice e)) (hi:P.info? e=some i) (hz:i.zero=some z)
  (hsize:i.size=size) (hby:i.bytes=bytes) (hzs:z.cells.size=size) (hsz:0<size)
  (v:Value) (n:Nat) (xs:List Value) (hown:w.ownsRow base e size v n xs)
  (A:Option Addr) (m c:Nat) (news:List Value) (hm:news.length=m * size) (hr:Reads w A news) (h1:∀u∈news,u.oneCell'=true)
  (h63:n+m≤maxLen) (hbytes:(n+m) * bytes≤140737488355328) (hbase:base≤w.heap.size) :
  ∃v' w',(Builtin.append_ #[t,t] ty #[v,.slice A m c]).run P w=.ok v' w'∧w'.ownsRow base e size v' (n+m) (xs++news)∧w.grownBy w' v.ownBlock∧
   (v'.ownBlock=v.ownBlock∨v'.ownBlock=some w.heap.size):=by
 rcases A with _|ad
 ·have hm0:m=0:=by
   rcases Nat.eq_zero_or_pos m with h0|h0
   ·exact h0
   ·obtain ⟨b,off,h,_⟩:=hr (by rw[hm];exact Nat.ne_of_gt (Nat.mul_pos h0 hsz))
    cases h
  subst hm0
  have hn:news= []:=List.eq_nil_of_length_eq_zero (by simpa using hm)
  subst hn
  exact ⟨v,w,run_append_of_nil w base t ty e i size ht hi v n xs hown c,by simpa using hown,World.grownBy.refl w _,.inl rfl⟩
 ·have hcells:∀j u,news[j]? =some u→w.cell? (ad.add j)=some u:=by
   intro j u hu
   obtain ⟨b,off,h,_,hc⟩:=hr (by
    intro h0
    rw[List.eq_nil_of_length_eq_zero h0] at hu
    cases hu)
   injection h with h
   subst h
   rw[Addr.add_lit]
   exact hc j u hu
  obtain ⟨v',w',hrun,h2,h3,_,h5⟩:=run_append_own_at (P:=P) w base t ty e i z size bytes ht hi hz hsize hby hzs hsz v n xs hown ad m c news hm hcells h1 h63 hbytes hbase
  exact ⟨v',w',hrun,h2,h3,h5⟩
theorem wp_append_reads {o:Oper} {a:Act} {K:Act→World→Prop} {Q:Exit→Act→World→Prop} (s x:Operand) (t:TypeId)
  (ho:o.op=.call { callee:=.builtin .append,args:=#[s,x],argTypes:=#[t,t] })
  (base:Nat) (e:TypeId) (i:TypeInfo) (z:Value) (size bytes:Nat) (ht:P.underlying t=some (.slice e)) (hi:P.info? e=some i) (hz:i.zero=some z)
  (hsize:i.size=size) (hby:i.bytes=bytes) (hzs:z.cells.size=size) (hsz:0<size)
  (v:Value) (n:Nat) (xs:List Value) (hs:a.eval s=v) (hown:w.ownsRow base e size v n xs)
  (A:Option Addr) (m c:Nat) (news:List Value) (hx:a.eval x=.slice A m c) (hm:news.length=m * size) (hr:Reads w A news) (h1:∀u∈news,u.oneCell'=true)
  (h63:n+m≤maxLen) (hbytes:(n+m) * bytes≤140737488355328) (hbase:base≤w.heap.size)
  (h:∀v' w',w'.ownsRow base e size v' (n+m) (xs++news)→w.grownBy w' v.ownBlock→(v'.ownBlock=v.ownBlock∨v'.ownBlock=some w.heap.size)→K (a.put o.dst v') w'):o.wp P a w K Q:=by
 obtain ⟨v',w',hrun,h2,h3,h4⟩:=run_append_reads (P:=P) w base t o.type e i z size bytes ht hi hz hsize hby hzs hsz v n xs hown A m c news hm hr h1 h63 hbytes hbase
 unfold Oper.wp execOp
 simp only[ho,resolve,invoke,builtin,Sem.run_bind,Sem.run_pure,Result.andThen_ok,List.map_toArray,List.map_cons,List.map_nil,hs,hx,hrun]
 exact h v' w' h2 h3 h4
theorem wpList_append_reads {ops:Array Oper} {rest:List Oper} {o:Oper} {a:Act} {Q:Exit→Act→World→Prop} (hgd:o.guard=none) (s x:Operand) (t:TypeId)
  (ho:o.op=.call { callee:=.builtin .append,args:=#[s,x],argTypes:=#[t,t] })
  (base:Nat) (e:TypeId) (i:TypeInfo) (z:Value) (size bytes:Nat) (ht:P.underlying t=some (.slice e)) (hi:P.info? e=some i) (hz:i.zero=some z)
  (hsize:i.size=size) (hby:i.bytes=bytes) (hzs:z.cells.size=size) (hsz:0<size)
  (v:Value) (n:Nat) (xs:List Value) (hs:a.eval s=v) (hown:w.ownsRow base e size v n xs)
  (A:Option Addr) (m c:Nat) (news:List Value) (hx:a.eval x=.slice A m c) (hm:news.length=m * size) (hr:Reads w A news) (h1:∀u∈news,u.oneCell'=true)
  (h63:n+m≤maxLen) (hbytes:(n+m) * bytes≤140737488355328) (hbase:base≤w.heap.size)
  (h:∀v' w',w'.ownsRow base e size v' (n+m) (xs++news)→w.grownBy w' v.ownBlock→(v'.ownBlock=v.ownBlock∨v'.ownBlock=some w.heap.size)→wpList P ops Q rest (a.put o.dst v') w'):wpList P ops Q (o :: rest) a w:=
 wpList_plain hgd fun _ hK=>wp_append_reads w s x t ho base e i z size bytes ht hi hz hsize hby hzs hsz v n xs hs hown A m c news hx hm hr h1 h63 hbytes hbase fun v' w' h2 h3 h4=>hK _ _ (h v' w' h2 h3 h4)
theorem step_append_reads {ops:Array Oper} {o:Oper} {a:Act} {K:Act→World→Prop} {Q:Exit→Act→World→Prop} {E:Prop} (hgd:o.guard=none) (s x:Operand) (t:TypeId)
  (ho:o.op=.call { callee:=.builtin .append,args:=#[s,x],argTypes:=#[t,t] })
  (base:Nat) (e:TypeId) (i:TypeInfo) (z:Value) (size bytes:Nat) (ht:P.underlying t=some (.slice e)) (hi:P.info? e=some i) (hz:i.zero=some z)
  (hsize:i.size=size) (hby:i.bytes=bytes) (hzs:z.cells.size=size) (hsz:0<size)
  (v:Value) (n:Nat) (xs:List Value) (hs:a.eval s=v) (hown:w.ownsRow base e size v n xs)
  (A:Option Addr) (m c:Nat) (news:List Value) (hx:a.eval x=.slice A m c) (hm:news.length=m * size) (hr:Reads w A news) (h1:∀u∈news,u.oneCell'=true)
  (h63:n+m≤maxLen) (hbytes:(n+m) * bytes≤140737488355328) (hbase:base≤w.heap.size)
  (h:∀v' w',w'.ownsRow base e size v' (n+m) (xs++news)→w.grownBy w' v.ownBlock→(v'.ownBlock=v.ownBlock∨v'.ownBlock=some w.heap.size)→K (a.put o.dst v') w') :
  if Region.wanted o (yielded ops a.tmps)=true then Oper.wp P o a w K Q else E:=by
 have hw:Region.wanted o (yielded ops a.tmps)=true:=by simp[Region.wanted,hgd]
 rw[if_pos hw]
 exact wp_append_reads w s x t ho base e i z size bytes ht hi hz hsize hby hzs hsz v n xs hs hown A m c news hx hm hr h1 h63 hbytes hbase h
end
end
section
def poly:Nat:=2197175160
def stepC (x:Nat):Nat:=(x >>> 1) ^^^ (if x.testBit 0 then poly else 0)
def stepN:Nat→Nat→Nat
 |0,x=>x
 |k+1,x=>stepC (stepN k x)
def step8 (x:Nat):Nat:=stepN 8 x
def feedC (x b:Nat):Nat:=step8 (x ^^^ b)
def byteC (w i:Nat):Nat:=(w >>> (8 * i)) % 256
def wordC (x w:Nat):Nat→Nat
 |0=>x
 |k+1=>feedC (wordC x w k) (byteC w k)
def wordsC (x:Nat) (l:List Nat):Nat:=l.foldl (fun x w=>wordC x w 8) x
def extendC (s:Nat) (l:List Nat):Nat:=4294967295 - wordsC (4294967295 - s) l
def shortC (s:Nat):Nat:=((s >>> 16) % 65536) ^^^ (s % 65536)
theorem stepC_xor (a b:Nat):stepC (a ^^^ b)=stepC a ^^^ stepC b:=by
 unfold stepC
 rw[Nat.shiftRight_xor_distrib,Nat.testBit_xor]
 apply Nat.eq_of_testBit_eq
 intro j
 cases a.testBit 0 <;> cases b.testBit 0 <;> simp only[Nat.testBit_xor,Nat.zero_testBit,if_true,if_false,Bool.xor_false,Bool.xor_true,Bool.not_false,Bool.not_true,Bool.false_eq_true] <;>
  generalize (a >>> 1).testBit j=p <;> generalize (b >>> 1).testBit j=q <;> generalize poly.testBit j=r <;> cases p <;> cases q <;> cases r <;> rfl
theorem stepN_xor (k a b:Nat):stepN k (a ^^^ b)=stepN k a ^^^ stepN k b:=by
 induction k with
 |zero=>rfl
 |succ k ih=>simp only[stepN,ih,stepC_xor]
theorem stepC_even (m:Nat):stepC (2 * m)=m:=by
 unfold stepC
 have:(2 * m).testBit 0=false:=by simp
 rw[this,Nat.shiftRight_eq_div_pow]
 simp
theorem stepN_shift (k m:Nat):stepN k (2 ^ k * m)=m:=by
 induction k generalizing m with
 |zero=>simp[stepN]
 |succ k ih=>
  have:2 ^ (k+1) * m=2 ^ k * (2 * m):=by rw[Nat.pow_succ,Nat.mul_assoc]
  rw[stepN,this,ih,stepC_even]
theorem split8 (y:Nat):y=(y % 256) ^^^ (2 ^ 8 * (y >>> 8)):=by
 have h1:y % 256<2 ^ 8:=Nat.mod_lt _ (by omega)
 have h2:2 ^ 8 * (y >>> 8)+y % 256=y:=by rw[Nat.shiftRight_eq_div_pow];omega
 apply Nat.eq_of_testBit_eq
 intro j
 rw[Nat.testBit_xor,Nat.testBit_two_pow_mul,show (256:Nat)=2 ^ 8 from rfl,Nat.testBit_mod_two_pow,Nat.testBit_shiftRight]
 by_cases h:j<8
 ·have:¬8≤j:=by omega
  simp[h,this]
 ·have h':8≤j:=by omega
  have:8+(j - 8)=j:=by omega
  simp[h,h',this]
theorem feedC_table (x b:Nat) (hb:b<256):feedC x b=step8 ((x % 256) ^^^ b) ^^^ (x >>> 8):=by
 unfold feedC step8
 have e1:(x ^^^ b) % 256=(x % 256) ^^^ b:=by
  have:b=b % 2 ^ 8:=(Nat.mod_eq_of_lt hb).symm
  rw[show (256:Nat)=2 ^ 8 from rfl,Nat.xor_mod_two_pow,←this]
 have e2:(x ^^^ b) >>> 8=x >>> 8:=by
  rw[Nat.shiftRight_xor_distrib,Nat.shiftRight_eq_div_pow b,Nat.div_eq_of_lt hb,Nat.xor_zero]
 conv=>lhs;rw[split8 (x ^^^ b)]
 rw[stepN_xor,stepN_shift,e1,e2]
theorem poly_lt:poly<4294967296:=by decide
theorem stepC_lt (x:Nat) (h:x<4294967296):stepC x<4294967296:=by
 unfold stepC
 refine Nat.xor_lt_two_pow (n:=32) ?_ ?_
 ·rw[Nat.shiftRight_eq_div_pow];omega
 ·split
  ·exact poly_lt
  ·omega
theorem stepN_lt (k x:Nat) (h:x<4294967296):stepN k x<4294967296:=by
 induction k with
 |zero=>exact h
 |succ k ih=>exact stepC_lt _ ih
theorem feedC_lt (x b:Nat) (h:x<4294967296) (hb:b<256):feedC x b<4294967296:=
 stepN_lt 8 _ (Nat.xor_lt_two_pow (n:=32) h (by omega))
theorem byteC_lt (w i:Nat):byteC w i<256:=Nat.mod_lt _ (by omega)
theorem wordC_lt (x w k:Nat) (h:x<4294967296):wordC x w k<4294967296:=by
 induction k with
 |zero=>exact h
 |succ k ih=>exact feedC_lt _ _ ih (byteC_lt _ _)
theorem wordsC_lt (x:Nat) (l:List Nat) (h:x<4294967296):wordsC x l<4294967296:=by
 induction l generalizing x with
 |nil=>exact h
 |cons w l ih=>exact ih _ (wordC_lt _ _ _ h)
theorem wordsC_snoc (x:Nat) (l:List Nat) (w:Nat):wordsC x (l++ [w])=wordC (wordsC x l) w 8:=by simp[wordsC]
theorem shortC_lt (s:Nat):shortC s<65536:=by
 unfold shortC
 exact Nat.xor_lt_two_pow (n:=16) (Nat.mod_lt _ (by omega)) (Nat.mod_lt _ (by omega))
end
section
theorem two_pow_lt (k:Nat) (h:k<64):2 ^ k<18446744073709551616:=by
 have:=Nat.pow_lt_pow_right (a:=2) (by omega) h
 simpa using this
theorem cast_two_pow (k:Nat):(2:Int) ^ k=((2 ^ k:Nat):Int):=by rw[Int.natCast_pow];rfl
theorem wrap_nat (a:Nat):IntKind.u64.wrap (a:Int)=((a % 18446744073709551616:Nat):Int):=by
 rw[IntKind.wrap_u64];omega
theorem cast_shr (x k:Nat):(x:Int) / 2 ^ k=((x >>> k:Nat):Int):=by
 rw[cast_two_pow,Nat.shiftRight_eq_div_pow];rfl
theorem or_lt {a b:Nat} (ha:a<18446744073709551616) (hb:b<18446744073709551616):a ||| b<18446744073709551616:=
 Nat.or_lt_two_pow (n:=64) ha hb
theorem and_lt {a:Nat} (b:Nat) (ha:a<18446744073709551616):a &&& b<18446744073709551616:=
 Nat.lt_of_le_of_lt Nat.and_le_left ha
end
section
open Go.RowKit
theorem u64_info:(Tryz.prog.info? 39).map (fun i=>(i.zero,i.size,i.bytes))=some (some (.int .u64 0),1,8):=by kernel_rfl
theorem int_info:(Tryz.prog.info? 3).map (fun i=>(i.zero,i.size,i.bytes))=some (some (.int .i64 0),1,8):=by kernel_rfl
theorem clone_any (A:Option Addr) (c:Nat) (l:List Nat) (w:World) (hA:Reads w A (uv l)) (hl:l.length≤1000000) :
  Calls Tryz.prog 136 #[.slice A l.length c] w fun e w'=>∃v,e=.returned v∧w'.ownsRow w.heap.size 39 1 v l.length (uv l)∧Below w.heap.size w w':=by
 obtain ⟨i0,hi0,hz0,hz1,hz2⟩:=info_parts u64_info
 have hn:=fun W=>Lib.run_eql_slice_nil (P:=Tryz.prog) W 27 39 A l.length c 0 0 Tryz.underlying27
 rcases A with _|a
 ·have h0:l= []:=by
   rcases Nat.eq_zero_or_pos l.length with h|h
   ·exact List.eq_nil_of_length_eq_zero h
   ·obtain ⟨b,off,h,_⟩:=hA.u (by omega)
    cases h
  subst h0
  simp only[List.length_nil,Option.isNone_none] at hn ⊢
  go_enter Tryz.func136,Tryz.ntmps136
  go_wp2
  go_ret
  exact ⟨_,rfl,World.ownsRow_nil _ _ _ _,Below.refl _ _⟩
 ·go_enter Tryz.func136,Tryz.ntmps136
  go_wp2_with (at_builtin;refine wpList_append_reads _ rfl _ _ _ rfl w.heap.size 39 i0 _ 1 8 Tryz.underlying27 hi0 hz0 hz1 hz2 rfl (by omega) (.slice (some ⟨w.heap.size,0,none⟩) 0 0) 0 [] rfl (World.ownsRow_lit w #[] 0 (Nat.le_refl _) (by simp only[maxLen];omega) rfl) (some a) l.length c (uv l) rfl (by rw[uv_length];omega) (hA.keep ((Below.refl _ _).alloc (Nat.le_refl _) _)) (uv_one l) (by simp only[maxLen];omega) (by omega) (by simp) ?_;intro v1 w1 hown1 hg1 hat1)
  go_ret
  refine ⟨v1,rfl,by simpa using hown1,((Below.refl _ w).alloc (Nat.le_refl _) _).grown hg1 (by simp) ?_⟩
  intro k hk
  simp[Value.ownBlock] at hk
  omega
theorem uv_set (l:List Nat) (i x:Nat):(uv l).set i (.int .u64 (x:Int))=uv (l.set i x):=by simp[uv,List.map_set]
theorem addr_plain {w:World} {x:Addr} {v:Value} (h:w.cell? x=some v):∃b off,x= ⟨b,off,none⟩:=by
 obtain ⟨b,off,spot⟩:=x
 cases spot with
 |none=>exact ⟨b,off,rfl⟩
 |some s=>
  unfold World.cell? at h
  split at h <;> simp at h
theorem wf_u64 {n:Int} (h:(Lit.int .u64 n).wf=true):0≤n∧n<18446744073709551616:=by
 have:=bounds_u64 h
 omega
theorem isRow_u {w:World} {a:Option Addr} {len cap:Nat} {zs:List Int}
  (h:(a=none∧len=0∧cap=0∧zs= [])∨
   ∃x,a=some x∧len≤cap∧cap≤maxLen∧zs.length=cap∧(∀i,i<zs.length→w.cell? (x.add i)=some (.int .u64 (zs.getD i 0)))∧∀n∈zs,(Lit.int .u64 n).wf=true) :
  ∃l:List Nat,l.length=len∧Reads w a (uv l)∧W64 l:=by
 rcases h with ⟨rfl,rfl,_,_⟩| ⟨x,rfl,hl,_,hz,hc,hw⟩
 ·exact ⟨[],rfl,Reads.nil,by intro x hx;cases hx⟩
 ·refine ⟨(zs.take len).map Int.toNat,by simp;omega,?_,?_⟩
  ·intro hne
   have h0:=hc 0 (by rw[uv_length] at hne;simp at hne;omega)
   obtain ⟨b,off,rfl⟩:=addr_plain (show w.cell? (x.add 0)=_ from h0)
   refine ⟨b,off,rfl,World.block_lt_of_cell? _ _ h0,fun i v hi=>?_⟩
   have hil:i<(uv ((zs.take len).map Int.toNat)).length:=(List.getElem?_eq_some_iff.1 hi).1
   rw[uv_length] at hil
   rw[uv_at _ _ hil] at hi
   have hil':i<len∧i<zs.length:=by simp at hil;omega
   have h1:=hc i hil'.2
   rw[Addr.add_lit] at h1
   rw[h1,←hi]
   congr 2
   have hz:zs.getD i 0=zs[i]:=by simp[hil'.2]
   have:=wf_u64 (hw _ (List.getElem_mem hil'.2))
   rw[hz]
   simp[hil'.1,hil'.2]
   omega
  ·intro y hy
   simp only[List.mem_map] at hy
   obtain ⟨z,hz,rfl⟩:=hy
   have:=wf_u64 (hw z (List.mem_of_mem_take hz))
   omega
theorem isRow_i {w:World} {a:Option Addr} {len cap:Nat} {zs:List Int}
  (h:(a=none∧len=0∧cap=0∧zs= [])∨
   ∃x,a=some x∧len≤cap∧cap≤maxLen∧zs.length=cap∧(∀i,i<zs.length→w.cell? (x.add i)=some (.int .i64 (zs.getD i 0)))∧∀n∈zs,(Lit.int .i64 n).wf=true) :
  ∃l:List Int,l.length=len∧Reads w a (iv l)∧I64 l:=by
 rcases h with ⟨rfl,rfl,_,_⟩| ⟨x,rfl,hl,_,hz,hc,hw⟩
 ·exact ⟨[],rfl,Reads.nil,by intro x hx;cases hx⟩
 ·refine ⟨zs.take len,by simp;omega,?_,?_⟩
  ·intro hne
   have h0:=hc 0 (by rw[iv_length] at hne;simp at hne;omega)
   obtain ⟨b,off,rfl⟩:=addr_plain (show w.cell? (x.add 0)=_ from h0)
   refine ⟨b,off,rfl,World.block_lt_of_cell? _ _ h0,fun i v hi=>?_⟩
   have hil:i<(iv (zs.take len)).length:=(List.getElem?_eq_some_iff.1 hi).1
   rw[iv_length] at hil
   rw[iv_at _ _ hil] at hi
   have hil':i<len∧i<zs.length:=by simp at hil;omega
   have h1:=hc i hil'.2
   rw[Addr.add_lit] at h1
   rw[h1,←hi]
   congr 2
   simp[hil'.1]
  ·intro y hy
   have:=bounds_i64 (hw y (List.mem_of_mem_take hy))
   omega
theorem ones_wrap (n:Nat) (h:n<64):IntKind.u64.wrap (IntKind.u64.wrap (2 ^ n) - 1)=((2 ^ n - 1:Nat):Int):=by
 have h2:2 ^ n<2 ^ 64:=Nat.pow_lt_pow_right (by omega) h
 have h0:0<2 ^ n:=Nat.pow_pos (by omega)
 rw[cast_two_pow,wrap_nat,Nat.mod_eq_of_lt h2]
 have e:((2 ^ n:Nat):Int) - 1=((2 ^ n - 1:Nat):Int):=by omega
 rw[e,wrap_nat,Nat.mod_eq_of_lt (by omega)]
theorem own_base {w:World} {base:Nat} {e:TypeId} {size n:Nat} {v:Value} {xs:List Value} (h:w.ownsRow base e size v n xs):∀j,v.ownBlock=some j→base≤j:=by
 intro j ej
 rcases h.2 with ⟨rfl,_⟩| ⟨g,cap,cur,rfl,hb,_,_⟩
 ·simp[Value.ownBlock] at ej
 ·obtain rfl:g=j:=by simpa[Value.ownBlock] using ej
  exact hb
theorem app_below {W w':World} {base:Nat} {e:TypeId} {size n:Nat} {v:Value} {xs:List Value} {o:Obj} (h:W.ownsRow base e size v n xs) (hg:(W.alloc o).grownBy w' v.ownBlock) (hle:base≤W.heap.size):Below base W w':=
 ((Below.refl base W).alloc hle o).grown hg (by simp;omega) (own_base h)
theorem any_u64 (x:Int):∃y:Nat,IntKind.u64.wrap x=(y:Int)∧y<18446744073709551616:=by
 have h:IntKind.u64.wrap x=x % 18446744073709551616:=by simp[IntKind.wrap,IntKind.signed,IntKind.bits]
 refine ⟨(x % 18446744073709551616).toNat,?_,?_⟩ <;> omega
end
section
open Go.RowKit
theorem step_odd (x:Nat) (h:x % 2=1):stepC x=(x >>> 1) ^^^ 2197175160:=by
 unfold stepC
 rw[if_pos (by rw[Nat.testBit_zero,h];rfl)]
 rfl
theorem step_even (x:Nat) (h:¬x % 2=1):stepC x=x >>> 1:=by
 unfold stepC
 rw[if_neg (by rw[Nat.testBit_zero];simpa using h),Nat.xor_zero]
theorem and_one32 (x:Nat) (h:x<4294967296):bits .and .u32 (x:Int) 1=((x % 2:Nat):Int):=by
 have:=u32_and_nat x 1 h (by omega)
 rw[Nat.and_one_is_mod] at this
 exact this
theorem shr1_lt (x:Nat) (h:x<4294967296):x >>> 1<4294967296:=Nat.lt_of_le_of_lt (Nat.shiftRight_le _ _) h
theorem refStep_any (x:Nat) (w:World) (hx:x<4294967296) :
  Calls Tryz.prog 151 #[.int .u32 (x:Int)] w fun e w'=>e=.returned (.int .u32 ((stepC x:Nat):Int))∧w=w':=by
 have h0:=and_one32 x hx
 by_cases h:x % 2=1
 ·have h1:bits .and .u32 (x:Int) 1=1:=by rw[h0,h];rfl
  have H:=Hi h
  clear h0 h
  go_enter Tryz.func151,Tryz.ntmps151
  go_wp2
  go_ret
  refine ⟨ret_int ?_,rfl⟩
  rw[step_odd x H.out,←u32_xor_nat _ _ (shr1_lt x hx) (by omega),Nat.shiftRight_eq_div_pow]
  rfl
 ·have h1:(bits .and .u32 (x:Int) 1 == 1)=false:=by rw[h0];simp;omega
  have h2:¬bits .and .u32 (x:Int) 1=1:=by simpa using h1
  have H:=Hi h
  clear h0 h
  go_enter Tryz.func151,Tryz.ntmps151
  go_wp2
  go_ret
  refine ⟨ret_int ?_,rfl⟩
  rw[step_even x H.out,Nat.shiftRight_eq_div_pow]
  rfl
theorem refFeed_any (x b:Nat) (w:World) (hx:x<4294967296) (hb:b<256) :
  Calls Tryz.prog 146 #[.int .u32 (x:Int),.int .u8 (b:Int)] w fun e w'=>e=.returned (.int .u32 ((feedC x b:Nat):Int))∧w=w':=by
 have hxb:bits .xor .u32 (x:Int) (b:Int)=((x ^^^ b:Nat):Int):=u32_xor_nat x b hx (by omega)
 have hlt:x ^^^ b<4294967296:=Nat.xor_lt_two_pow (n:=32) hx (by omega)
 go_enter Tryz.func146,Tryz.ntmps146
 go_wp2
 go_loop [0,5] (fun y i=>∃k:Nat,k≤8∧i=.int .i64 k∧y=.int .u32 ((stepN k (x ^^^ b):Nat):Int)) (fun _ i=>8 - (intOf i).toNat)
 case atStart=>exact ⟨0,Nat.zero_le _,rfl,rfl⟩
 case round=>
  obtain ⟨k,hk,rfl,rfl⟩:=hrel
  have hs:=stepN_lt k _ hlt
  by_cases hlt8:k<8
  ·have h8:(k:Int)<8:=by omega
   go_wp2_with fail
   refine (refStep_any _ _ hs).mono ?_
   rintro e w' ⟨rfl,rfl⟩
   go_wp2_with fail
   go_round
   case rel=>exact ⟨k+1,by omega,by go_num,rfl⟩
   case measure=>simp[intOf];omega
  ·obtain rfl:k=8:=by omega
   go_wp2_with fail
   go_ret
   exact ⟨rfl,rfl⟩
theorem byte_wrap (w k:Nat):IntKind.u8.wrap ((w:Int) / 2 ^ k)=((((w >>> k) % 256:Nat)):Int):=by
 rw[cast_shr,IntKind.wrap_u8];omega
theorem refWord_any (x v:Nat) (w:World) (hx:x<4294967296) (hv:v<18446744073709551616) :
  Calls Tryz.prog 134 #[.int .u32 (x:Int),.int .u64 (v:Int)] w fun e w'=>e=.returned (.int .u32 ((wordC x v 8:Nat):Int))∧w=w':=by
 go_enter Tryz.func134,Tryz.ntmps134
 go_wp2
 go_loop [0,5] (fun y i=>∃k:Nat,k≤8∧i=.int .i64 k∧y=.int .u32 ((wordC x v k:Nat):Int)) (fun _ i=>8 - (intOf i).toNat)
 case atStart=>exact ⟨0,Nat.zero_le _,rfl,rfl⟩
 case round=>
  obtain ⟨k,hk,rfl,rfl⟩:=hrel
  have hs:=wordC_lt x v k hx
  by_cases hlt8:k<8
  ·have h8:(k:Int)<8:=by omega
   have e8:((8:Int) * (k:Int)).toNat=8 * k:=by omega
   have hby:=byte_wrap v (8 * k)
   rw[←show byteC v k=(v >>> (8 * k)) % 256 from rfl] at hby
   have hbl:=byteC_lt v k
   go_wp2_with fail
   refine (refFeed_any _ _ _ hs hbl).mono ?_
   rintro e w' ⟨rfl,rfl⟩
   go_wp2_with fail
   go_round
   case rel=>exact ⟨k+1,by omega,by go_num,rfl⟩
   case measure=>simp[intOf];omega
  ·obtain rfl:k=8:=by omega
   go_wp2_with fail
   go_ret
   exact ⟨rfl,rfl⟩
theorem xor_ones (s:Nat) (h:s<4294967296):4294967295 ^^^ s=4294967295 - s:=by
 have e:4294967295 - s=2 ^ 32 - (s+1):=by omega
 apply Nat.eq_of_testBit_eq
 intro j
 rw[e,Nat.testBit_two_pow_sub_succ h,Nat.testBit_xor,show (4294967295:Nat)=2 ^ 32 - 1 from rfl,Nat.testBit_two_pow_sub_one]
 by_cases hj:j<32
 ·simp[hj]
 ·have:s.testBit j=false:=Nat.testBit_lt_two_pow (Nat.lt_of_lt_of_le h (Nat.pow_le_pow_right (n:=2) (by omega) (show 32≤j by omega)))
  simp[hj,this]
theorem not32 (s:Nat) (h:s<4294967296):bits .xor .u32 IntKind.u32.max (s:Int)=((4294967295 - s:Nat):Int):=by
 have:=u32_xor_nat 4294967295 s (by omega) h
 rw[xor_ones s h] at this
 exact this
theorem refExtend_any (s:Nat) (A:Option Addr) (c n:Nat) (l:List Nat) (w:World) (hn:l.length=n) (hA:Reads w A (uv l)) (hl:W64 l) (hlen:n≤1000000) (hs:s<4294967296) :
  Calls Tryz.prog 104 #[.int .u32 (s:Int),.slice A n c] w fun e w'=>e=.returned (.int .u32 ((extendC s l:Nat):Int))∧w=w':=by
 have hcx:∀i,i<n→∃b off,A=some ⟨b,off,none⟩∧w.cell? ⟨b,off+i,none⟩=some (.int .u64 ((l[i]?.getD 0:Nat):Int)):=by
  intro i hi
  obtain ⟨b,off,e,_,hc⟩:=hA.u (by omega)
  exact ⟨b,off,e,hc i (by omega)⟩
 have HX:=Hi hcx
 have HN:=Hi hn
 clear hcx hA hn
 go_enter Tryz.func104,Tryz.ntmps104
 go_wp2
 go_loop [5,6] (fun y i=>∃k:Nat,k≤n∧i=.int .i64 k∧y=.int .u32 ((wordsC (4294967295 - s) (l.take k):Nat):Int)) (fun _ i=>n - (intOf i).toNat)
 case atStart=>exact ⟨0,Nat.zero_le _,rfl,val_int (by rw[not32 s hs];rfl)⟩
 case round=>
  obtain ⟨k,hk,rfl,rfl⟩:=hrel
  have hs':=wordsC_lt (4294967295 - s) (l.take k) (by omega)
  by_cases hlt:k<n
  ·obtain ⟨b,off,rfl,hc1⟩:=HX.out k hlt
   have hv:=hl.at k
   have HS:=Hi (show wordsC (4294967295 - s) (l.take (k+1))=wordC (wordsC (4294967295 - s) (l.take k)) (l[k]?.getD 0) 8 by
    rw[List.take_succ_eq_append_getElem (by rw[HN.out];exact hlt),wordsC_snoc,List.getElem?_eq_getElem (by rw[HN.out];exact hlt)];rfl)
   obtain ⟨v,ev⟩ :∃v,l[k]?.getD 0=v:=⟨_,rfl⟩
   rw[ev] at hc1 hv HS
   clear ev
   have k1:(k:Int)<(n:Int):=by omega
   go_wp2_with fail
   refine (refWord_any _ _ _ hs' hv).mono ?_
   rintro e w' ⟨rfl,rfl⟩
   go_wp2_with fail
   go_round
   case rel=>exact ⟨k+1,by omega,by go_num,by rw[HS.out]⟩
   case measure=>simp[intOf];omega
  ·obtain rfl:k=n:=by omega
   go_wp2_with fail
   go_ret
   refine ⟨ret_int ?_,rfl⟩
   rw[not32 _ hs',List.take_of_length_le (by rw[HN.out];exact Nat.le_refl _)]
   rfl
theorem extendC_lt (s:Nat) (l:List Nat):extendC s l<4294967296:=by unfold extendC;omega
theorem refWords_sum (A:Option Addr) (c n:Nat) (l:List Nat) (w:World) (hn:l.length=n) (hA:Reads w A (uv l)) (hl:W64 l) (hlen:n≤1000000) :
  Calls Tryz.prog 60 #[.slice A n c] w fun e w'=>e=.returned (.int .u32 ((extendC 0 l:Nat):Int))∧w=w':=by
 go_enter Tryz.func60,Tryz.ntmps60
 go_wp2_with fail
 refine (refExtend_any 0 A c n l w hn hA hl hlen (by omega)).mono ?_
 rintro e w' ⟨rfl,rfl⟩
 go_wp2_with fail
 go_ret
 exact ⟨rfl,rfl⟩
theorem short_val (s:Nat) (h:s<4294967296):bits .xor .u16 ((s:Int) / 65536) (IntKind.u16.wrap (s:Int))=((shortC s:Nat):Int):=by
 have e1:(s:Int) / 65536=(((s >>> 16) % 65536:Nat):Int):=by
  rw[Nat.shiftRight_eq_div_pow];omega
 have e2:IntKind.u16.wrap (s:Int)=((s % 65536:Nat):Int):=by rw[IntKind.wrap_u16];omega
 rw[show (65536:Int)=((65536:Nat):Int) from rfl,e1,e2,u16_xor_nat _ _ (Nat.mod_lt _ (by omega)) (Nat.mod_lt _ (by omega))]
 rfl
theorem refShort_any (s:Nat) (w:World) (h:s<4294967296) :
  Calls Tryz.prog 59 #[.int .u32 (s:Int)] w fun e w'=>e=.returned (.int .u16 ((shortC s:Nat):Int))∧w=w':=by
 have H:=Hi (short_val s h)
 go_enter Tryz.func59,Tryz.ntmps59
 go_wp2_with fail
 go_ret
 exact ⟨ret_int H.out,rfl⟩
theorem short_any (s:Nat) (w:World) (h:s<4294967296) :
  Calls Tryz.prog 70 #[.int .u32 (s:Int)] w fun e w'=>e=.returned (.int .u16 ((shortC s:Nat):Int))∧w=w':=by
 have H:=Hi (short_val s h)
 go_enter Tryz.func70,Tryz.ntmps70
 go_wp2_with fail
 go_ret
 exact ⟨ret_int H.out,rfl⟩
end
section
open Go.RowKit
def tabTo (k:Nat):List Value:=(List.range 256).map fun i=>Value.int .u32 (((if i<k then step8 i else 0):Nat):Int)
theorem tabTo_length (k:Nat):(tabTo k).length=256:=by simp[tabTo]
theorem tabTo_at (k i:Nat) (h:i<256):(tabTo k)[i]? =some (.int .u32 (((if i<k then step8 i else 0):Nat):Int)):=by simp[tabTo,h]
theorem tabTo_succ (k:Nat) (h:k<256):(tabTo k).set k (.int .u32 ((step8 k:Nat):Int))=tabTo (k+1):=by
 refine List.ext_getElem? fun i=>?_
 by_cases hi:i<256
 ·rw[List.getElem?_set,tabTo_at _ _ hi,tabTo_at _ _ hi,tabTo_length]
  by_cases e:k=i
  ·subst e;simp[h]
  ·have:(i<k+1)=(i<k):=by apply propext;omega
   simp[e,this]
 ·rw[List.getElem?_eq_none (by rw[List.length_set,tabTo_length];omega),List.getElem?_eq_none (by rw[tabTo_length];omega)]
theorem tabTo_zero:Tryz.zeroCells204=(tabTo 0).toArray:=by kernel_rfl
theorem grownBy_setRow (W:World) (b:Nat) (cs:Array Value):W.grownBy (W.setRow b cs) (some b):=
 ⟨rfl,rfl,rfl,by simp[World.setRow],fun k _ hk=>by
  show (W.heap.modify b _)[k]? =_
  rw[Array.getElem?_modify,if_neg (fun e=>hk (by rw[e]))]⟩
theorem newTable_any (w:World) :
  Calls Tryz.prog 137 #[] w fun e w'=>e=.returned (.agg (tabTo 256).toArray)∧Below w.heap.size w w':=by
 go_enter Tryz.func137,Tryz.ntmps137
 go_wp2
 have h0:((w.alloc (Obj.cells Tryz.zeroCells204 204)).alloc (Obj.cells Tryz.zeroCells204 204)).heap[w.heap.size]? =some (.cells (tabTo 0).toArray 204 (0,0)):=by
  rw[tabTo_zero,heap_alloc_old _ _ (by simp)]
  exact heap_alloc_new w _
 have h1:((w.alloc (Obj.cells Tryz.zeroCells204 204)).alloc (Obj.cells Tryz.zeroCells204 204)).heap[w.heap.size+1]? =some (.cells (tabTo 0).toArray 204 (0,0)):=by
  rw[tabTo_zero]
  have:=heap_alloc_new (w.alloc (Obj.cells (tabTo 0).toArray 204)) (Obj.cells (tabTo 0).toArray 204)
  rw[World.size_alloc] at this
  exact this
 have hb:Below w.heap.size w ((w.alloc (Obj.cells Tryz.zeroCells204 204)).alloc (Obj.cells Tryz.zeroCells204 204)):=((Below.refl _ w).alloc (Nat.le_refl _) _).alloc (by simp) _
 generalize ((w.alloc (Obj.cells Tryz.zeroCells204 204)).alloc (Obj.cells Tryz.zeroCells204 204))=W at h0 h1 hb ⊢
 go_loopw [4] (fun i wr=>∃k:Nat,k≤256∧i=.int .i64 k∧wr.heap[w.heap.size]? =some (.cells (tabTo 0).toArray 204 (0,0))∧wr.heap[w.heap.size+1]? =some (.cells (tabTo k).toArray 204 (0,0))∧Below w.heap.size w wr) (fun i _=>256 - (intOf i).toNat)
 case atStart=>exact ⟨0,Nat.zero_le _,rfl,h0,h1,hb⟩
 case round=>
  obtain ⟨k,hk,rfl,g0,g1,hB⟩:=hrel
  have G0:=Hi g0
  have G1:=Hi g1
  clear h0 h1 hb
  by_cases hlt:k<256
  ·have hl':(k:Int)<256:=by omega
   have hw32:IntKind.u32.wrap (k:Int)=(k:Int):=by rw[IntKind.wrap_u32];omega
   have hc:=cell_of_row wr (w.heap.size+1) k _ _ _ g1
   have hf:=frozen_of_row wr (w.heap.size+1) k _ _ g1
   clear g0 g1
   rw[show (tabTo k).toArray[k]? =(tabTo k)[k]? by simp,tabTo_at k k hlt] at hc
   go_wp2_with fail
   go_loop [3,9] (fun r j=>∃t:Nat,t≤8∧j=.int .i64 (t:Int)∧r=.int .u32 ((stepN t k:Nat):Int)) (fun _ j=>8 - (intOf j).toNat)
   case atStart=>exact ⟨0,Nat.zero_le _,rfl,rfl⟩
   case round=>
    obtain ⟨t,ht,rfl,rfl⟩:=hrel
    have hs:=stepN_lt t k (by omega)
    by_cases h8:t<8
    ·have h8':(t:Int)<8:=by omega
     have hS:stepN (t+1) k=stepC (stepN t k):=rfl
     obtain ⟨x,ex⟩ :∃x,stepN t k=x:=⟨_,rfl⟩
     rw[ex] at hs hS ⊢
     have HS:=Hi hS
     clear ex hS
     have h0:=and_one32 x hs
     by_cases h:x % 2=1
     ·have h1:bits .and .u32 (x:Int) 1=1:=by rw[h0,h];rfl
      have H:=Hi h
      clear h0 h
      go_wp2_with fail
      go_round
      case rel=>
       refine ⟨t+1,by omega,by go_num,?_⟩
       rw[HS.out,step_odd x H.out,←u32_xor_nat _ _ (shr1_lt x hs) (by omega),Nat.shiftRight_eq_div_pow]
       rfl
      case measure=>simp[intOf];omega
     ·have h1:(bits .and .u32 (x:Int) 1 == 1)=false:=by rw[h0];simp;omega
      have h2:¬bits .and .u32 (x:Int) 1=1:=by simpa using h1
      have H:=Hi h
      clear h0 h
      go_wp2_with fail
      go_round
      case rel=>
       refine ⟨t+1,by omega,by go_num,?_⟩
       rw[HS.out,step_even x H.out,Nat.shiftRight_eq_div_pow]
       rfl
      case measure=>simp[intOf];omega
    ·obtain rfl:t=8:=by omega
     go_wp2_with fail
     refine ⟨⟨k+1,by omega,by go_num,(Below.heap_setCell _ _ _ _ (by show _≠_+1;omega)).trans G0.out,?_,hB.setCell (p:=⟨w.heap.size+1,k,none⟩) (by show _≤_+1;omega) _⟩,by simp[intOf];omega⟩
     have:=heap_setCell_same wr (w.heap.size+1) k _ 204 (.int .u32 ((stepN 8 k:Nat):Int)) G1.out
     rw[←tabTo_succ k hlt]
     rw[this]
     simp[step8]
  ·obtain rfl:k=256:=by omega
   have hi:(Tryz.prog.info? 204).map (·.size)=some (tabTo 256).length:=by rw[tabTo_length];kernel_rfl
   have hi2:(Tryz.prog.info? 204).map (·.size)=some (tabTo 256).toArray.size:=by rw[hi];simp
   have hr1:wr.rangeAt (w.heap.size+1) 0 (tabTo 256):=by
    intro j v hv
    have:=cell_of_row wr (w.heap.size+1) (0+j) _ _ _ g1
    rw[this,Nat.zero_add]
    simpa using hv
   have h1c:(tabTo 256).toArray.all (·.oneCell')=true:=all_oneCell_toArray (by
    intro v hv
    obtain ⟨i,_,rfl⟩:=List.mem_map.1 hv
    rfl)
   have hst:(storeCells ⟨w.heap.size,0,none⟩ (tabTo 256)).run Tryz.prog wr=.ok () (wr.setRow w.heap.size (tabTo 256).toArray):=by
    have:=run_storeVar_row (P:=Tryz.prog) wr w.heap.size 204 204 _ (tabTo 256).toArray g0 hi2 (by simp[tabTo]) h1c
    cases hq:Tryz.prog.info? 204 with
    |none=>rw[hq] at hi2;simp at hi2
    |some i=>
     have hs:(tabTo 256).length=i.size:=by rw[hq] at hi;simp at hi;omega
     simpa[storeVar,sizeOf,typeInfo,hq,Value.cells,hs] using this
   have hg2:=setRow_heap wr w.heap.size _ (tabTo 256).toArray 204 _ g0
   have hB2:Below w.heap.size w (wr.setRow w.heap.size (tabTo 256).toArray):=hB.grown (row:=some w.heap.size) (grownBy_setRow wr w.heap.size _) hB.size (by intro r e;cases e;exact Nat.le_refl _)
   have HI:=Hi hi
   have HI2:=Hi hi2
   have HR:=Hi hr1
   have HG:=Hi hg2
   clear g0 g1 hi hi2 hr1 h1c hg2
   go_wp2_with fail
   refine wp_load_mid 204 _ rfl (w.heap.size+1) 0 rfl (tabTo 256) _ HR.out Tryz.underlying204 rfl HI.out ?_
   go_wp2_with fail
   refine bodyPost_ret (results_cell_row rfl _ _ w.heap.size 204 _ (0,0) _ rfl HG.out Tryz.underlying204 rfl HI2.out) rfl ?_
   exact ⟨rfl,hB2⟩
end
section
def okW:Int→List Int→Bool
 |_,[]=>true
 |s,w :: r=>decide (1≤w∧w≤64∧s+w≤64) && okW (s+w) r
theorem okW_at (s:Int) (ws:List Int) (k:Nat) (h:okW s ws=true) (hk:k<ws.length) :
  1≤ws[k]?.getD 0∧ws[k]?.getD 0≤64∧s+(ws.take k).sum+ws[k]?.getD 0≤64:=by
 induction ws generalizing s k with
 |nil=>simp at hk
 |cons w r ih=>
  simp only[okW,Bool.and_eq_true,decide_eq_true_eq] at h
  cases k with
  |zero=>simp;omega
  |succ k=>
   have:=ih (s+w) k h.2 (by simpa using hk)
   simp at this ⊢
   omega
theorem okW_drop (s:Int) (ws:List Int) (k:Nat) (hk:k<ws.length) (x:Int) (hx:ws[k]?.getD 0=x):okW s (ws.drop k)=(decide (1≤x∧x≤64∧s+x≤64) && okW (s+x) (ws.drop (k+1))):=by
 rw[List.drop_eq_getElem_cons hk,okW]
 have:ws[k]=x:=by rw[←hx,List.getElem?_eq_getElem hk];rfl
 rw[this]
theorem sum_take_succ (ws:List Int) (k:Nat) (hk:k<ws.length):(ws.take (k+1)).sum=(ws.take k).sum+ws[k]?.getD 0:=by
 rw[List.take_succ_eq_append_getElem hk,List.sum_append,List.getElem?_eq_getElem hk]
 simp
def fldAt (ws:List Int) (k:Nat):Nat:=((ws.take k).sum).toNat
def maskOf (x:Int):Nat:=2 ^ x.toNat - 1
end
end Go.Proofs.YtplhdjdkobddnaaGreat
