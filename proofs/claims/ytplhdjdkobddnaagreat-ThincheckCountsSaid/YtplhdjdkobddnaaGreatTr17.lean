/- MwC MixM MixN MwD -/
import Derived.Test.YtplhdjdkobddnaaGreatTr16
import Derived.Deep.DeepCutAuto
set_option linter.unusedVariables false
set_option maxRecDepth 100000
set_option maxHeartbeats 40000000
namespace Go.Proofs.YtplhdjdkobddnaaGreat
section
open Go.RowKit
attribute [local go_sem] Oper.semAt_some
def arAt (data area:Nat):Nat:=16+area * (arB data * 16)
theorem rareaof_any (A:Addr) (m c data area:Nat) (W:World) (hd:data≤16384) (hd1:1≤data) (ha:area≤1) (h1:arAt data area+arB data * 16≤m) (hc:m≤c) (hm:m≤1000000) :
  Calls Tryz.prog 16 #[.slice (some A) m c,.int .i64 (data:Int),.int .i64 (area:Int)] W fun e w'=>e=.returned (.slice (some (A.add (arAt data area))) (arB data * 16) (c - arAt data area))∧W=w':=by
 have HA:=Hi (rareas_any data W (by omega))
 have hab:arB data≤1000:=by unfold arB;omega
 have hab1:1≤arB data:=by unfold arB;omega
 have HF:Hid (arAt data area=16+area * (arB data * 16)):=rfl
 obtain ⟨a,ha2⟩ :∃a,arB data=a:=⟨_,rfl⟩
 obtain ⟨f,hf⟩ :∃f,arAt data area=f:=⟨_,rfl⟩
 rw[ha2] at HA hab hab1 HF h1 ⊢
 rw[hf] at HF h1 ⊢
 have e1:IntKind.i64.wrap ((a:Int) * 16)=(a:Int) * 16:=by rw[IntWalk.i64_in _ (by omega)]
 have e2:IntKind.i64.wrap ((area:Int) * ((a:Int) * 16))=(area:Int) * ((a:Int) * 16):=by
  have:area=0∨area=1:=by omega
  rcases this with rfl|rfl
  ·rw[IntWalk.i64_in _ (by omega)]
  ·rw[IntWalk.i64_in _ (by omega)]
 have e3:IntKind.i64.wrap (16+(area:Int) * ((a:Int) * 16))=(f:Int):=by
  have:=HF.out
  have q:(f:Int)=16+(area:Int) * ((a:Int) * 16):=by rw[this];simp only[Int.natCast_add,Int.natCast_mul];rfl
  rw[←q,IntWalk.i64_in _ (by omega)]
 have e4:IntKind.i64.wrap ((f:Int)+(a:Int) * 16)=((f+a * 16:Nat):Int):=by rw[IntWalk.i64_in _ (by omega)];omega
 have d1:¬c=f:=by omega
 have d2:¬m=f:=by omega
 clear ha2 hf
 go_enter Tryz.func16,Tryz.ntmps16
 go_wp2_with fail
 refine HA.out.mono ?_
 rintro e w' ⟨rfl,rfl⟩
 go_wp2_with fail
 go_ret
 exact ⟨by rw[show f+a * 16 - f=a * 16 by omega];rfl,rfl⟩
def blN (n:Nat):Nat:=min (n / 16) 4096
theorem rblocks_any (n:Nat) (W:World) (hn:n≤1000000) :
  Calls Tryz.prog 49 #[.int .i64 (n:Int)] W fun e w'=>e=.returned (.int .i64 (blN n:Int))∧W=w':=by
 have HB:Hid (blN n=min (n / 16) 4096):=rfl
 go_enter Tryz.func49,Tryz.ntmps49
 go_wp2_with fail
 ·go_ret
  refine ⟨ret_int ?_,rfl⟩
  rw[HB.out]
  omega
 ·go_ret
  refine ⟨ret_int ?_,rfl⟩
  rw[HB.out]
  omega
theorem rvalue_any (id r t m:Nat) (W:World) (hr:r<1048576) (ht:t<1048576) (hm:m<16777216) :
  Calls Tryz.prog 120 #[.agg #[.int .i64 (id:Int),.int .i64 (r:Int),.int .i64 (t:Int),.int .i64 (m:Int)]] W fun e w'=>e=.returned (.int .u64 (dvV r t m:Int))∧Below W.heap.size W w':=by
 have HD:Hid (dvV r t m=r+t * 1048576+m * 1099511627776):=rfl
 have n1:IntKind.u64.wrap (r:Int)=r:=by rw[wrap_nat,Nat.mod_eq_of_lt (by omega)]
 have n2:IntKind.u64.wrap (t:Int)=t:=by rw[wrap_nat,Nat.mod_eq_of_lt (by omega)]
 have n3:IntKind.u64.wrap (m:Int)=m:=by rw[wrap_nat,Nat.mod_eq_of_lt (by omega)]
 have n4:IntKind.u64.wrap ((t:Int) * 1048576)=(t:Int) * 1048576:=by rw[show (t:Int) * 1048576=((t * 1048576:Nat):Int) by omega,wrap_nat,Nat.mod_eq_of_lt (by omega)]
 have n5:IntKind.u64.wrap ((m:Int) * 1099511627776)=(m:Int) * 1099511627776:=by rw[show (m:Int) * 1099511627776=((m * 1099511627776:Nat):Int) by omega,wrap_nat,Nat.mod_eq_of_lt (by omega)]
 obtain ⟨q,hq⟩ :∃q,r+t * 1048576=q:=⟨_,rfl⟩
 have n6:bits .or .u64 (r:Int) ((t:Int) * 1048576)=(q:Int):=by
  have:=orN r t 20 (by omega) (by omega)
  rw[←hq]
  exact this
 have n7:bits .or .u64 (q:Int) ((m:Int) * 1099511627776)=((q+m * 1099511627776:Nat):Int):=by
  have:=orN q m 40 (by omega) (by omega)
  exact this
 rw[hq] at HD
 rw[←HD.out] at n7
 generalize dvV r t m=z at *
 clear hq
 go_enter Tryz.func120,Tryz.ntmps120
 go_wp2_with fail
 go_ret
 exact ⟨rfl,(Below.refl _ W).alloc (Nat.le_refl _) _⟩
theorem rmapvalue_any (d t:Nat) (W:World) (hd:d<16777216) (ht:t<1048576) :
  Calls Tryz.prog 92 #[.int .i64 (d:Int),.int .i64 (t:Int)] W fun e w'=>e=.returned (.int .u64 (mpV d t:Int))∧W=w':=by
 have HD:Hid (mpV d t=d+t * 16777216):=rfl
 have n1:IntKind.u64.wrap (d:Int)=d:=by rw[wrap_nat,Nat.mod_eq_of_lt (by omega)]
 have n2:IntKind.u64.wrap (t:Int)=t:=by rw[wrap_nat,Nat.mod_eq_of_lt (by omega)]
 have n4:IntKind.u64.wrap ((t:Int) * 16777216)=(t:Int) * 16777216:=by rw[show (t:Int) * 16777216=((t * 16777216:Nat):Int) by omega,wrap_nat,Nat.mod_eq_of_lt (by omega)]
 have n6:bits .or .u64 (d:Int) ((t:Int) * 16777216)=((mpV d t:Nat):Int):=by
  have:=orN d t 24 (by omega) (by omega)
  exact this
 generalize mpV d t=z at *
 go_enter Tryz.func92,Tryz.ntmps92
 go_wp2_with fail
 go_ret
 exact ⟨rfl,rfl⟩
def rtL (block seq tree time data chunk area sum:Nat):List Nat:=[hdN 1 0 0 (block:Int),seq,tree,time,data,chunk,area,sum]
def rtW (block seq tree time data chunk area sum:Nat):List Nat:=sealN (rtL block seq tree time data chunk area sum)
theorem rrootwords_any (block seq tree time data chunk area:Nat) (A:Option Addr) (n c:Nat) (l:List Nat) (W:World) (hn:l.length=n) (hA:Reads W A (uv l)) (hl:W64 l) (hlen:n≤1000000)
  (h1:block≤1000000000) (h2:seq≤1000000000) (h3:tree≤1000000000) (h4:time≤1000000000) (h5:data≤1000000000) (h6:chunk≤1000000000) (h7:area≤1000000000) :
  Calls Tryz.prog 23 #[.int .i64 (block:Int),.int .i64 (seq:Int),.int .i64 (tree:Int),.int .i64 (time:Int),.int .i64 (data:Int),.int .i64 (chunk:Int),.int .i64 (area:Int),.slice A n c] W fun e w'=>∃g,e=.returned (.slice (some ⟨g,0,none⟩) 16 16)∧w'.ownsRow W.heap.size 39 1 (.slice (some ⟨g,0,none⟩) 16 16) 16 (uv (rtW block seq tree time data chunk area (shortC (extendC 0 l))))∧Below W.heap.size W w':=by
 have hsum:=Hi (refWords_sum A c n l W hn hA hl hlen)
 have hext:=extendC_lt 0 l
 have hlt:=shortC_lt (extendC 0 l)
 obtain ⟨ex,hex⟩ :∃ex,extendC 0 l=ex:=⟨_,rfl⟩
 rw[hex] at hext hsum hlt ⊢
 have hsh:=Hi (refShort_any ex W hext)
 obtain ⟨s,hs⟩ :∃s,shortC ex=s:=⟨_,rfl⟩
 rw[hs] at hlt hsh ⊢
 have hh:=Hi (refHeader_any 1 0 0 (block:Int) W)
 have hhl:=hdN_lt 1 0 0 (block:Int)
 have HL:Hid (rtL block seq tree time data chunk area s= [hdN 1 0 0 (block:Int),seq,tree,time,data,chunk,area,s]):=rfl
 have HR:Hid (rtW block seq tree time data chunk area s=sealN (rtL block seq tree time data chunk area s)):=rfl
 obtain ⟨h,hh2⟩ :∃h,hdN 1 0 0 (block:Int)=h:=⟨_,rfl⟩
 rw[hh2] at hh hhl HL
 have n1:IntKind.u64.wrap (seq:Int)=seq:=by rw[wrap_nat,Nat.mod_eq_of_lt (by omega)]
 have n2:IntKind.u64.wrap (tree:Int)=tree:=by rw[wrap_nat,Nat.mod_eq_of_lt (by omega)]
 have n3:IntKind.u64.wrap (time:Int)=time:=by rw[wrap_nat,Nat.mod_eq_of_lt (by omega)]
 have n4:IntKind.u64.wrap (data:Int)=data:=by rw[wrap_nat,Nat.mod_eq_of_lt (by omega)]
 have n5:IntKind.u64.wrap (chunk:Int)=chunk:=by rw[wrap_nat,Nat.mod_eq_of_lt (by omega)]
 have n6:IntKind.u64.wrap (area:Int)=area:=by rw[wrap_nat,Nat.mod_eq_of_lt (by omega)]
 have n7:IntKind.u64.wrap (s:Int)=s:=by rw[wrap_nat,Nat.mod_eq_of_lt (by omega)]
 have hb0:Below W.heap.size W (W.alloc (.cells #[.int .u64 (h:Int),.int .u64 (seq:Int),.int .u64 (tree:Int),.int .u64 (time:Int),.int .u64 (data:Int),.int .u64 (chunk:Int),.int .u64 (area:Int),.int .u64 (s:Int)] 39)):=(Below.refl _ W).alloc (Nat.le_refl _) _
 have HB0:=Hi hb0
 have hseal:=refSeal_any (some ⟨W.heap.size,0,none⟩) 8 8 (rtL block seq tree time data chunk area s) (W.alloc (.cells #[.int .u64 (h:Int),.int .u64 (seq:Int),.int .u64 (tree:Int),.int .u64 (time:Int),.int .u64 (data:Int),.int .u64 (chunk:Int),.int .u64 (area:Int),.int .u64 (s:Int)] 39)) (by rw[HL.out];rfl) (by
   rw[HL.out]
   exact Reads.new W #[.int .u64 (h:Int),.int .u64 (seq:Int),.int .u64 (tree:Int),.int .u64 (time:Int),.int .u64 (data:Int),.int .u64 (chunk:Int),.int .u64 (area:Int),.int .u64 (s:Int)] 39) (by
   rw[HL.out]
   intro x hx
   simp only[List.mem_cons,List.not_mem_nil,or_false] at hx
   omega) (by omega)
 have HSL:=Hi hseal
 clear hseal hb0 hh2 hs hex hA hl hn
 go_enter Tryz.func23,Tryz.ntmps23
 go_wp2_with fail
 refine hsum.out.mono ?_
 rintro e w1 ⟨rfl,rfl⟩
 go_wp2_with fail
 refine hsh.out.mono ?_
 rintro e w1 ⟨rfl,rfl⟩
 go_wp2_with fail
 refine hh.out.mono ?_
 rintro e w1 ⟨rfl,rfl⟩
 go_wp2_with fail
 refine HSL.out.mono ?_
 rintro e w1 ⟨g,rfl,ho,hb⟩
 have HO:=Hi ho
 have HB:=Hi hb
 clear ho hb
 go_wp2_with fail
 go_ret
 have hsz:=HB0.out.size
 exact ⟨g,rfl,by rw[HR.out];exact own_lower HO.out hsz,HB0.out.trans (HB.out.mono hsz)⟩
end
section
open Go
section
variable {P:Program} {md:Region.Mode} {ops:Array Oper} {Q:Exit→Act→World→Prop} {S:World→Prop} {n:Nat}
def wpSeqL (P:Program) (ops:Array Oper) (Q:Exit→Act→World→Prop) (S:World→Prop) (n:Nat):List (Nat × Oper)→Act→World→Prop
 | [],a,w=>Q .normal a w
 |o :: l,a,w=>if Region.wanted o.2 (yielded ops a.tmps)=true then o.2.wp P a w (fun a' w'=>(o.1<n→S w')∧wpSeqL P ops Q S n l a' w') Q∨(o.2.asks P a w∧LetsOut Q) else (o.1<n→S w)∧wpSeqL P ops Q S n l (a.put o.2.dst undef) w
theorem wpSeqL_list:∀(l:List (Nat × Oper)) (a:Act) (w:World),(∀o∈l,n≤o.1)→wpList P ops Q (l.map Prod.snd) a w→wpSeqL P ops Q S n l a w
 | [],_,_,_,h=>h
 |o :: l,a,w,hk,h=>by
  have h1:n≤o.1:=hk o List.mem_cons_self
  have h2:∀p∈l,n≤p.1:=fun p hp=>hk p (List.mem_cons_of_mem _ hp)
  unfold wpSeqL
  rw[List.map_cons] at h
  unfold wpList at h
  split
  ·rename_i hw
   rw[if_pos hw] at h
   exact h.imp (Oper.wp_mono (fun a' w' h'=>⟨fun hh=>absurd hh (by omega),wpSeqL_list l a' w' h2 h'⟩)) id
  ·rename_i hw
   rw[if_neg hw] at h
   exact ⟨fun hh=>absurd hh (by omega),wpSeqL_list l _ w h2 h⟩
theorem wpSeqL_step {k:Nat} {o:Oper} {l:List (Nat × Oper)} {a:Act} {w:World}
  (h:∀K:Act→World→Prop,(∀a w,(k<n→S w)→wpSeqL P ops Q S n l a w→K a w)→if Region.wanted o (yielded ops a.tmps)=true then o.wp P a w K Q else K (a.put o.dst undef) w):wpSeqL P ops Q S n ((k,o) :: l) a w:=by
 have:=h (fun a w=>(k<n→S w)∧wpSeqL P ops Q S n l a w) (fun a w h1 h2=>⟨h1,h2⟩)
 unfold wpSeqL
 split
 ·rename_i hw;rw[if_pos hw] at this;exact .inl this
 ·rename_i hw;rw[if_neg hw] at this;exact this
def seqLB (md:Region.Mode) (ops:Array Oper):List Nat→Array Bool→Bool
 | [],listed=>(Region.ready md ops listed).isEmpty
 |k :: l,listed=>decide (Region.ready md ops listed= [k]) && seqLB md ops l (listed.setIfInBounds k true)
def headLB (md:Region.Mode) (ops:Array Oper) (n:Nat) (r:List Nat):List Nat→Array Bool→Bool
 | [],listed=>seqLB md ops r listed
 |k :: l,listed=>decide (k<n) && (Region.ready md ops listed).contains k && Region.free md ops listed k && headLB md ops n r l (listed.setIfInBounds k true)
def pickL (ops:Array Oper):List Nat→List (Nat × Oper)
 | []=>[]
 |k :: l=>match ops[k]? with
  |some o=>(k,o) :: pickL ops l
  |none=>[]
theorem wpAnyT_of_seqL:∀(l:List Nat) (listed:Array Bool) (a:Act) (w:World),(∀k∈l,k<ops.size)→
  seqLB md ops l listed=true→wpSeqL P ops Q S n (pickL ops l) a w→wpAnyT P md ops Q S n l.length listed a w
 | [],_,_,_,_,hB,h=>⟨by simpa[seqLB] using hB,h⟩
 |k :: l,listed,a,w,hl,hB,h=>by
  have hk:=hl k List.mem_cons_self
  have h0:ops[k]? =some ops[k]:=Array.getElem?_eq_getElem hk
  simp only[seqLB,Bool.and_eq_true,decide_eq_true_eq] at hB
  refine ⟨fun h1=>(by rw[hB.1] at h1;cases h1),fun i hi=>?_⟩
  rw[hB.1] at hi
  have hik:i=k:=by simpa using hi
  subst hik
  unfold wpOp
  simp only[h0]
  simp only[pickL,h0] at h
  unfold wpSeqL at h
  have next:∀a' w',wpSeqL P ops Q S n (pickL ops l) a' w'→wpAnyT P md ops Q S n l.length (listed.setIfInBounds i true) a' w':=fun a' w' h'=>
   wpAnyT_of_seqL l _ a' w' (fun j hj=>hl j (List.mem_cons_of_mem _ hj)) hB.2 h'
  split
  ·rename_i hw
   rw[if_pos hw] at h
   exact h.imp (Oper.wp_mono (fun a' w' h'=>⟨h'.1,next a' w' h'.2⟩)) id
  ·rename_i hw
   rw[if_neg hw] at h
   exact ⟨h.1,next _ _ h.2⟩
theorem wpAnyT_headL {r:List Nat} {T:Act→Prop} {w:World} (hsel:Region.noSelect ops=true) (hs:Region.sinkB md ops n=true) (hc:Region.chainB md ops n=true) (hn:n<ops.size) (hS:S w)
  (hT:∀listed a,seqLB md ops r listed=true→T a→wpAnyT P md ops Q S n r.length listed a w) :
  ∀(l:List Nat) (listed:Array Bool) (a:Act),HeadInv md ops n listed→
  headLB md ops n r l listed=true→wpHeadS P ops Q S T ((pickL ops l).map Prod.snd) a→wpAnyT P md ops Q S n (l.length+r.length) listed a w
 | [],listed,a,_,hB,hw=>by
  rw[List.length_nil,Nat.zero_add]
  exact hT listed a hB hw
 |k :: l,listed,a,inv,hB,hw=>by
  simp only[headLB,Bool.and_eq_true,decide_eq_true_eq] at hB
  obtain ⟨⟨⟨hkn,hr⟩,hf⟩,hB'⟩:=hB
  have h0:ops[k]? =some ops[k]:=Array.getElem?_eq_getElem (by omega)
  have hr':k∈Region.ready md ops listed:=by simpa using hr
  simp only[pickL,h0,List.map_cons] at hw
  obtain ⟨v,hy,hQ,hK⟩:=hw
  have:=wpAnyT_first h0 (Region.noSelect_spec hsel) hs hc hn hkn hQ (l.length+r.length) listed a w inv (Region.free_spec h0 hf) hr' hy hS
   (wpAnyT_headL hsel hs hc hn hS hT l _ _ (inv.set hr' hkn) hB' hK)
  rw[List.length_cons,show l.length+1+r.length=l.length+r.length+1 by omega]
  exact this
def mixLB (ops:Array Oper) (h r:List Nat) (n:Nat):Bool:=
 Region.noSelect ops && decide (n<ops.size) && decide (h.length+r.length=ops.size) && r.all (fun k=>decide (k<ops.size)) && Region.sinkB .any ops n && Region.chainB .any ops n && headLB .any ops n r h (Array.replicate ops.size false)
theorem wp_region_mixL {id:Nat} {a:Act} {w:World} {ops:Array Oper} (h r:List Nat) (n:Nat) (hm:P.follows .mixedOrders=true) (hB:mixLB ops h r n=true) (S:World→Prop) (hS:S w.drew)
  (hw:wpHeadS P ops Q S (fun a'=>wpSeqL P ops Q S n (pickL ops r) a' w.drew) ((pickL ops h).map Prod.snd) a):(Code.region id ops true).wp P Q a w:=by
 simp only[mixLB,Bool.and_eq_true,decide_eq_true_eq,List.all_eq_true] at hB
 obtain ⟨⟨⟨⟨⟨⟨hsel,hn⟩,hlen⟩,hr⟩,hs⟩,hc⟩,hlex⟩:=hB
 have inv0:HeadInv .any ops n (Array.replicate ops.size false):=
  ⟨by simp,fun j oj _ hl=>(by rw[getD_replicate_false] at hl;cases hl),fun t _ ht=>getD_in (by simpa using ht) (getD_replicate_false _ _)⟩
 have H:=wpAnyT_headL (md:=.any) (n:=n) (T:=fun a'=>wpSeqL P ops Q S n (pickL ops r) a' w.drew) (w:=w.drew) hsel hs hc hn hS
  (fun listed a' hq ht=>wpAnyT_of_seqL (md:=.any) r listed a' w.drew hr hq ht) h _ a inv0 hlex hw
 rw[hlen] at H
 exact wp_region_any hm (wpAny_of_T _ _ _ _ H)
def seqL2B (md:Region.Mode) (ops:Array Oper) (a b:Nat) (r:List Nat) (listed:Array Bool):Bool:=
 decide (Region.ready md ops listed= [a,b]) && seqLB md ops (b :: r) (listed.setIfInBounds a true) && seqLB md ops (a :: r) (listed.setIfInBounds b true)
def headL2B (md:Region.Mode) (ops:Array Oper) (n a b:Nat) (r:List Nat):List Nat→Array Bool→Bool
 | [],listed=>seqL2B md ops a b r listed
 |k :: l,listed=>decide (k<n) && (Region.ready md ops listed).contains k && Region.free md ops listed k && headL2B md ops n a b r l (listed.setIfInBounds k true)
theorem wpAnyT_first2 {k:Nat} {l:List Nat} {listed:Array Bool} {a:Act} {w:World} (hk:k<ops.size) (hl:∀j∈l,j<ops.size) (hB:seqLB md ops l (listed.setIfInBounds k true)=true) (h:wpSeqL P ops Q S n (pickL ops (k :: l)) a w) :
  wpOp P ops Q k (fun a' w'=>(k<n→S w')∧wpAnyT P md ops Q S n l.length (listed.setIfInBounds k true) a' w') a w:=by
 have h0:ops[k]? =some ops[k]:=Array.getElem?_eq_getElem hk
 unfold wpOp
 simp only[h0]
 simp only[pickL,h0] at h
 unfold wpSeqL at h
 have next:∀a' w',wpSeqL P ops Q S n (pickL ops l) a' w'→wpAnyT P md ops Q S n l.length (listed.setIfInBounds k true) a' w':=fun a' w' h'=>
  wpAnyT_of_seqL l _ a' w' hl hB h'
 split
 ·rename_i hw
  rw[if_pos hw] at h
  exact h.imp (Oper.wp_mono (fun a' w' h'=>⟨h'.1,next a' w' h'.2⟩)) id
 ·rename_i hw
  rw[if_neg hw] at h
  exact ⟨h.1,next _ _ h.2⟩
theorem wpAnyT_of_seqL2 {i j:Nat} {r:List Nat} {listed:Array Bool} {a:Act} {w:World} (hi:i<ops.size) (hj:j<ops.size) (hr:∀k∈r,k<ops.size)
  (hB:seqL2B md ops i j r listed=true) (h1:wpSeqL P ops Q S n (pickL ops (i :: j :: r)) a w) (h2:wpSeqL P ops Q S n (pickL ops (j :: i :: r)) a w):wpAnyT P md ops Q S n (r.length+2) listed a w:=by
 simp only[seqL2B,Bool.and_eq_true,decide_eq_true_eq] at hB
 obtain ⟨⟨hr0,hr1⟩,hr2⟩:=hB
 refine ⟨fun h=>(by rw[hr0] at h;cases h),fun k hk=>?_⟩
 rw[hr0] at hk
 simp only[List.mem_cons,List.not_mem_nil,or_false] at hk
 rcases hk with rfl|rfl
 ·exact wpAnyT_first2 (l:=j :: r) hi (fun k hk=>(List.mem_cons.1 hk).elim (fun e=>e▸hj) (hr k)) hr1 h1
 ·exact wpAnyT_first2 (l:=i :: r) hj (fun k hk=>(List.mem_cons.1 hk).elim (fun e=>e▸hi) (hr k)) hr2 h2
theorem wpAnyT_headL2 {i j:Nat} {r:List Nat} {T:Act→Prop} {w:World} (hsel:Region.noSelect ops=true) (hs:Region.sinkB md ops n=true) (hc:Region.chainB md ops n=true) (hn:n<ops.size) (hS:S w)
  (hT:∀listed a,seqL2B md ops i j r listed=true→T a→wpAnyT P md ops Q S n (r.length+2) listed a w) :
  ∀(l:List Nat) (listed:Array Bool) (a:Act),HeadInv md ops n listed→
  headL2B md ops n i j r l listed=true→wpHeadS P ops Q S T ((pickL ops l).map Prod.snd) a→wpAnyT P md ops Q S n (l.length+(r.length+2)) listed a w
 | [],listed,a,_,hB,hw=>by
  rw[List.length_nil,Nat.zero_add]
  exact hT listed a hB hw
 |k :: l,listed,a,inv,hB,hw=>by
  simp only[headL2B,Bool.and_eq_true,decide_eq_true_eq] at hB
  obtain ⟨⟨⟨hkn,hr⟩,hf⟩,hB'⟩:=hB
  have h0:ops[k]? =some ops[k]:=Array.getElem?_eq_getElem (by omega)
  have hr':k∈Region.ready md ops listed:=by simpa using hr
  simp only[pickL,h0,List.map_cons] at hw
  obtain ⟨v,hy,hQ,hK⟩:=hw
  have:=wpAnyT_first h0 (Region.noSelect_spec hsel) hs hc hn hkn hQ (l.length+(r.length+2)) listed a w inv (Region.free_spec h0 hf) hr' hy hS
   (wpAnyT_headL2 hsel hs hc hn hS hT l _ _ (inv.set hr' hkn) hB' hK)
  rw[List.length_cons,show l.length+1+(r.length+2)=l.length+(r.length+2)+1 by omega]
  exact this
def mixL2B (ops:Array Oper) (h:List Nat) (i j:Nat) (r:List Nat) (n:Nat):Bool:=
 Region.noSelect ops && decide (n<ops.size) && decide (h.length+(r.length+2)=ops.size) && decide (i<ops.size) && decide (j<ops.size) && r.all (fun k=>decide (k<ops.size)) && Region.sinkB .any ops n && Region.chainB .any ops n && headL2B .any ops n i j r h (Array.replicate ops.size false)
theorem wp_region_mixL2 {id:Nat} {a:Act} {w:World} {ops:Array Oper} (h:List Nat) (i j:Nat) (r:List Nat) (n:Nat) (hm:P.follows .mixedOrders=true) (hB:mixL2B ops h i j r n=true) (S:World→Prop) (hS:S w.drew)
  (hw:wpHeadS P ops Q S (fun a'=>wpSeqL P ops Q S n (pickL ops (i :: j :: r)) a' w.drew∧wpSeqL P ops Q S n (pickL ops (j :: i :: r)) a' w.drew) ((pickL ops h).map Prod.snd) a):(Code.region id ops true).wp P Q a w:=by
 simp only[mixL2B,Bool.and_eq_true,decide_eq_true_eq,List.all_eq_true] at hB
 obtain ⟨⟨⟨⟨⟨⟨⟨⟨hsel,hn⟩,hlen⟩,hi⟩,hj⟩,hr⟩,hs⟩,hc⟩,hlex⟩:=hB
 have inv0:HeadInv .any ops n (Array.replicate ops.size false):=
  ⟨by simp,fun j oj _ hl=>(by rw[getD_replicate_false] at hl;cases hl),fun t _ ht=>getD_in (by simpa using ht) (getD_replicate_false _ _)⟩
 have H:=wpAnyT_headL2 (md:=.any) (n:=n) (T:=fun a'=>wpSeqL P ops Q S n (pickL ops (i :: j :: r)) a' w.drew∧wpSeqL P ops Q S n (pickL ops (j :: i :: r)) a' w.drew) (w:=w.drew) hsel hs hc hn hS
  (fun listed a' hq ht=>wpAnyT_of_seqL2 hi hj hr hq ht.1 ht.2) h _ a inv0 hlex hw
 rw[hlen] at H
 exact wp_region_any hm (wpAny_of_T _ _ _ _ H)
end
end
section
open Go
section
variable {P:Program} {md:Region.Mode} {ops:Array Oper} {Q:Exit→Act→World→Prop} {S:World→Prop} {n:Nat}
def wpScr (P:Program) (ops:Array Oper) (Q:Exit→Act→World→Prop) (S:World→Prop) (n:Nat) (T:Act→World→Prop):List (Bool × Nat × Oper)→Act→World→Prop
 | [],a,w=>T a w
 |(true,_,o) :: l,a,w=>∃v,YieldsIf P ops S o v a∧(∀c a w,Q (.panic c) (a.put o.dst v) w→Q (.panic c) a w)∧wpScr P ops Q S n T l (a.put o.dst v) w
 |(false,_,o) :: l,a,w=>if Region.wanted o (yielded ops a.tmps)=true then o.wp P a w (fun a' w'=>S w'∧wpScr P ops Q S n T l a' w') Q∨(o.asks P a w∧LetsOut Q) else S w∧wpScr P ops Q S n T l (a.put o.dst undef) w
theorem wpScr_step {k:Nat} {o:Oper} {T:Act→World→Prop} {l:List (Bool × Nat × Oper)} {a:Act} {w:World}
  (h:∀K:Act→World→Prop,(∀a w,S w→wpScr P ops Q S n T l a w→K a w)→if Region.wanted o (yielded ops a.tmps)=true then o.wp P a w K Q else K (a.put o.dst undef) w):wpScr P ops Q S n T ((false,k,o) :: l) a w:=by
 have:=h (fun a w=>S w∧wpScr P ops Q S n T l a w) (fun a w h1 h2=>⟨h1,h2⟩)
 unfold wpScr
 split
 ·rename_i hw;rw[if_pos hw] at this;exact .inl this
 ·rename_i hw;rw[if_neg hw] at this;exact this
def scrB (md:Region.Mode) (ops:Array Oper) (n:Nat) (r:List Nat):List (Bool × Nat)→Array Bool→Bool
 | [],listed=>seqLB md ops r listed
 |(true,k) :: l,listed=>decide (k<n) && (Region.ready md ops listed).contains k && Region.free md ops listed k && scrB md ops n r l (listed.setIfInBounds k true)
 |(false,k) :: l,listed=>decide (k<n) && decide (Region.ready md ops listed= [k]) && scrB md ops n r l (listed.setIfInBounds k true)
def pickS (ops:Array Oper):List (Bool × Nat)→List (Bool × Nat × Oper)
 | []=>[]
 |(b,k) :: l=>match ops[k]? with
  |some o=>(b,k,o) :: pickS ops l
  |none=>[]
theorem wpAnyT_scr {r:List Nat} {T:Act→World→Prop} (hsel:Region.noSelect ops=true) (hs:Region.sinkB md ops n=true) (hc:Region.chainB md ops n=true) (hn:n<ops.size)
  (hT:∀listed a w,seqLB md ops r listed=true→T a w→wpAnyT P md ops Q S n r.length listed a w) :
  ∀(l:List (Bool × Nat)) (listed:Array Bool) (a:Act) (w:World),HeadInv md ops n listed→S w→
  scrB md ops n r l listed=true→wpScr P ops Q S n T (pickS ops l) a w→wpAnyT P md ops Q S n (l.length+r.length) listed a w
 | [],listed,a,w,_,_,hB,hw=>by
  rw[List.length_nil,Nat.zero_add]
  exact hT listed a w hB hw
 |(true,k) :: l,listed,a,w,inv,hS,hB,hw=>by
  simp only[scrB,Bool.and_eq_true,decide_eq_true_eq] at hB
  obtain ⟨⟨⟨hkn,hr⟩,hf⟩,hB'⟩:=hB
  have h0:ops[k]? =some ops[k]:=Array.getElem?_eq_getElem (by omega)
  have hr':k∈Region.ready md ops listed:=by simpa using hr
  simp only[pickS,h0] at hw
  obtain ⟨v,hy,hQ,hK⟩:=hw
  have:=wpAnyT_first h0 (Region.noSelect_spec hsel) hs hc hn hkn hQ (l.length+r.length) listed a w inv (Region.free_spec h0 hf) hr' hy hS
   (wpAnyT_scr hsel hs hc hn hT l _ _ w (inv.set hr' hkn) hS hB' hK)
  rw[List.length_cons,show l.length+1+r.length=l.length+r.length+1 by omega]
  exact this
 |(false,k) :: l,listed,a,w,inv,hS,hB,hw=>by
  simp only[scrB,Bool.and_eq_true,decide_eq_true_eq] at hB
  obtain ⟨⟨hkn,hr⟩,hB'⟩:=hB
  have h0:ops[k]? =some ops[k]:=Array.getElem?_eq_getElem (by omega)
  have hr':k∈Region.ready md ops listed:=by rw[hr];exact List.mem_cons_self
  simp only[pickS,h0] at hw
  rw[List.length_cons,show l.length+1+r.length=l.length+r.length+1 by omega]
  refine ⟨fun h1=>(by rw[hr] at h1;cases h1),fun i hi=>?_⟩
  rw[hr] at hi
  have hik:i=k:=by simpa using hi
  subst hik
  unfold wpOp
  simp only[h0]
  unfold wpScr at hw
  have next:∀a' w',S w'→wpScr P ops Q S n T (pickS ops l) a' w'→wpAnyT P md ops Q S n (l.length+r.length) (listed.setIfInBounds i true) a' w':=fun a' w' hS' h'=>
   wpAnyT_scr hsel hs hc hn hT l _ a' w' (inv.set hr' hkn) hS' hB' h'
  split
  ·rename_i hwn
   rw[if_pos hwn] at hw
   exact hw.imp (Oper.wp_mono (fun a' w' h'=>⟨fun _=>h'.1,next a' w' h'.1 h'.2⟩)) id
  ·rename_i hwn
   rw[if_neg hwn] at hw
   exact ⟨fun _=>hw.1,next _ _ hw.1 hw.2⟩
def mixSB (ops:Array Oper) (h:List (Bool × Nat)) (r:List Nat) (n:Nat):Bool:=
 Region.noSelect ops && decide (n<ops.size) && decide (h.length+r.length=ops.size) && r.all (fun k=>decide (k<ops.size)) && Region.sinkB .any ops n && Region.chainB .any ops n && scrB .any ops n r h (Array.replicate ops.size false)
theorem wp_region_scr {id:Nat} {a:Act} {w:World} {ops:Array Oper} (h:List (Bool × Nat)) (r:List Nat) (n:Nat) (hm:P.follows .mixedOrders=true) (hB:mixSB ops h r n=true) (S:World→Prop) (hS:S w.drew)
  (hw:wpScr P ops Q S n (fun a' w'=>wpSeqL P ops Q S n (pickL ops r) a' w') (pickS ops h) a w.drew):(Code.region id ops true).wp P Q a w:=by
 simp only[mixSB,Bool.and_eq_true,decide_eq_true_eq,List.all_eq_true] at hB
 obtain ⟨⟨⟨⟨⟨⟨hsel,hn⟩,hlen⟩,hr⟩,hs⟩,hc⟩,hlex⟩:=hB
 have inv0:HeadInv .any ops n (Array.replicate ops.size false):=
  ⟨by simp,fun j oj _ hl=>(by rw[getD_replicate_false] at hl;cases hl),fun t _ ht=>getD_in (by simpa using ht) (getD_replicate_false _ _)⟩
 have H:=wpAnyT_scr (md:=.any) (n:=n) (T:=fun a' w'=>wpSeqL P ops Q S n (pickL ops r) a' w') hsel hs hc hn
  (fun listed a' w' hq ht=>wpAnyT_of_seqL (md:=.any) r listed a' w' hr hq ht) h _ a w.drew inv0 hS hlex hw
 rw[hlen] at H
 exact wp_region_any hm (wpAny_of_T _ _ _ _ H)
end
end
section
open Go.RowKit
attribute [local go_sem] Oper.semAt_some
structure Hdr where
 seq:Nat
 time:Nat
 data:Nat
 chunk:Nat
 area:Nat
 tree:Nat
 sum:Nat
def Hdr.v (h:Hdr):Value:=.agg #[.int .i64 (h.seq:Int),.int .i64 (h.time:Int),.int .i64 (h.data:Int),.int .i64 (h.chunk:Int),.int .i64 (h.area:Int),.int .u64 (h.tree:Int),.int .u64 (h.sum:Int)]
structure HdrOk (h:Hdr) (b n:Nat):Prop where
 sq:h.seq≤16777215
 tm:h.time≤1048575
 d1:1≤h.data
 d2:h.data≤16384
 c1:1≤h.chunk
 c2:h.chunk≤64
 ar:h.area≤1
 sz:(2 * arB h.data+49) * 16≤n
 bl:2 * arB h.data<b
 lt:b<blN n
theorem hdr_info:(Tryz.prog.info? 41).map (·.size)=some 7:=by kernel_rfl
theorem res_hdr {fn:Func} {p u:Tmp} (h:fn.results=#[.cell p 41,.tmp u]) (tmps:Array Value) (W:World) (g:Nat) (x0 x1 x2 x3 x4 x5 x6:Value) (hp:tmps.getD p undef=.pointer (some ⟨g,0,none⟩)) (hg:Cs W g 41 #[x0,x1,x2,x3,x4,x5,x6]) :
  (results fn tmps).run Tryz.prog W=.ok (.tuple #[.agg #[x0,x1,x2,x3,x4,x5,x6],tmps.getD u undef]) W:=by
 have hl:(loadVar 41 ⟨g,0,none⟩).run Tryz.prog W=.ok (.agg #[x0,x1,x2,x3,x4,x5,x6]) W:=
  run_loadVar_row W g 41 41 _ (0,0) _ hg Tryz.underlying41 rfl hdr_info
 have hp':tmps[p]?.getD undef=.pointer (some ⟨g,0,none⟩):=by simpa using hp
 simp[results,h,hp',asAddr,hl,Result.andThen]
theorem Cs.put7 {W:World} {g:Nat} {t:TypeId} {a b c d e f h:Value} (hh:Cs W g t #[a,b,c,d,e,f,h]) (a' b' c' d' e' f' h':Value):Cs (((((((W.setCell ⟨g,0,none⟩ a').setCell ⟨g,1,none⟩ b').setCell ⟨g,2,none⟩ c').setCell ⟨g,3,none⟩ d').setCell ⟨g,4,none⟩ e').setCell ⟨g,5,none⟩ f').setCell ⟨g,6,none⟩ h') g t #[a',b',c',d',e',f',h']:=by
 have q0:Cs (W.setCell ⟨g,0,none⟩ a') g t #[a',b,c,d,e,f,h]:=heap_setCell_same _ g 0 _ t a' hh
 have q1:Cs ((W.setCell ⟨g,0,none⟩ a').setCell ⟨g,1,none⟩ b') g t #[a',b',c,d,e,f,h]:=heap_setCell_same _ g 1 _ t b' q0
 have q2:Cs (((W.setCell ⟨g,0,none⟩ a').setCell ⟨g,1,none⟩ b').setCell ⟨g,2,none⟩ c') g t #[a',b',c',d,e,f,h]:=heap_setCell_same _ g 2 _ t c' q1
 have q3:Cs ((((W.setCell ⟨g,0,none⟩ a').setCell ⟨g,1,none⟩ b').setCell ⟨g,2,none⟩ c').setCell ⟨g,3,none⟩ d') g t #[a',b',c',d',e,f,h]:=heap_setCell_same _ g 3 _ t d' q2
 have q4:Cs (((((W.setCell ⟨g,0,none⟩ a').setCell ⟨g,1,none⟩ b').setCell ⟨g,2,none⟩ c').setCell ⟨g,3,none⟩ d').setCell ⟨g,4,none⟩ e') g t #[a',b',c',d',e',f,h]:=heap_setCell_same _ g 4 _ t e' q3
 have q5:Cs ((((((W.setCell ⟨g,0,none⟩ a').setCell ⟨g,1,none⟩ b').setCell ⟨g,2,none⟩ c').setCell ⟨g,3,none⟩ d').setCell ⟨g,4,none⟩ e').setCell ⟨g,5,none⟩ f') g t #[a',b',c',d',e',f',h]:=heap_setCell_same _ g 5 _ t f' q4
 have q6:Cs (((((((W.setCell ⟨g,0,none⟩ a').setCell ⟨g,1,none⟩ b').setCell ⟨g,2,none⟩ c').setCell ⟨g,3,none⟩ d').setCell ⟨g,4,none⟩ e').setCell ⟨g,5,none⟩ f').setCell ⟨g,6,none⟩ h') g t #[a',b',c',d',e',f',h']:=heap_setCell_same _ g 6 _ t h' q5
 exact q6
theorem below_put7 {n g:Nat} {W0 W:World} (h:Below n W0 W) (hg:n≤g) (a' b' c' d' e' f' h':Value):Below n W0 (((((((W.setCell ⟨g,0,none⟩ a').setCell ⟨g,1,none⟩ b').setCell ⟨g,2,none⟩ c').setCell ⟨g,3,none⟩ d').setCell ⟨g,4,none⟩ e').setCell ⟨g,5,none⟩ f').setCell ⟨g,6,none⟩ h'):=
 ((((((h.setCell (p:=⟨g,0,none⟩) hg _).setCell (p:=⟨g,1,none⟩) hg _).setCell (p:=⟨g,2,none⟩) hg _).setCell (p:=⟨g,3,none⟩) hg _).setCell (p:=⟨g,4,none⟩) hg _).setCell (p:=⟨g,5,none⟩) hg _).setCell (p:=⟨g,6,none⟩) hg _
end
end Go.Proofs.YtplhdjdkobddnaaGreat
