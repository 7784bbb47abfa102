/- FrA CtA -/
import Derived.Test.YtplhdjdkobddnaaGreatTr8
import Derived.Maps.OwnSet
set_option linter.unusedVariables false
set_option maxRecDepth 100000
set_option maxHeartbeats 40000000
namespace Go.Proofs.YtplhdjdkobddnaaGreat
section
open Go.RowKit
structure Fr (G:Nat→Prop) (W W':World):Prop where
 os:W'.os=W.os
 tape:W'.tape=W.tape
 output:W'.output=W.output
 size:W.heap.size≤W'.heap.size
 block:∀j,j<W.heap.size→¬G j→W'.heap[j]? =W.heap[j]?
theorem Fr.refl (G:Nat→Prop) (W:World):Fr G W W:=⟨rfl,rfl,rfl,Nat.le_refl _,fun _ _ _=>rfl⟩
theorem Fr.mono {G H:Nat→Prop} {W W':World} (h:Fr G W W') (hg:∀j,j<W.heap.size→G j→H j):Fr H W W':=⟨h.os,h.tape,h.output,h.size,fun j hj hn=>h.block j hj (fun hc=>hn (hg j hj hc))⟩
theorem Fr.trans {G:Nat→Prop} {A B C:World} (h:Fr G A B) (k:Fr G B C):Fr G A C:=
 ⟨k.os.trans h.os,k.tape.trans h.tape,k.output.trans h.output,Nat.le_trans h.size k.size,fun j hj hn=>(k.block j (Nat.lt_of_lt_of_le hj h.size) hn).trans (h.block j hj hn)⟩
theorem Fr.of_below {G:Nat→Prop} {W W':World} (h:Below W.heap.size W W'):Fr G W W':=⟨h.os,h.tape,h.output,h.size,fun j hj _=>h.block j hj⟩
theorem Fr.of_grown {g:Nat} {W W':World} (h:W.grownBy W' (some g)):Fr (· =g) W W':=⟨h.os,h.tape,h.output,h.size,fun j hj hn=>h.block j hj (by simpa using hn)⟩
theorem Fr.below {G:Nat→Prop} {W W':World} {n₀:Nat} (h:Fr G W W') (hn:n₀≤W.heap.size) (hG:∀j,G j→n₀≤j):Below n₀ W W':=
 ⟨h.os,h.tape,h.output,h.size,fun j hj=>h.block j (by omega) (fun hc=>by have:=hG j hc;omega)⟩
theorem Fr.drew {G:Nat→Prop} {W W':World} (h:Fr G W W'):Fr G W W'.drew:=⟨h.os,h.tape,h.output,h.size,h.block⟩
theorem Fr.drewN {G:Nat→Prop} {W W':World} (h:Fr G W W') (n:Nat):Fr G W (W'.drewN n):=⟨h.os,h.tape,h.output,h.size,h.block⟩
theorem Fr.set {G:Nat→Prop} {W W':World} (h:Fr G W W') {b i:Nat} (hb:G b∨W.heap.size≤b) (u:Value):Fr G W (W'.setCell ⟨b,i,none⟩ u):=
 ⟨h.os,h.tape,h.output,by simpa using h.size,fun j hj hn=>(Below.heap_setCell _ _ _ j (by show j≠b;rintro rfl;rcases hb with hb|hb;exact hn hb;omega)).trans (h.block j hj hn)⟩
theorem Fr.alloc {G:Nat→Prop} {W W':World} (h:Fr G W W') (o:Obj):Fr G W (W'.alloc o):=h.trans (Fr.of_below ((Below.refl _ W').alloc (Nat.le_refl _) o))
theorem Fr.cell {G:Nat→Prop} {W W':World} (h:Fr G W W') {b i:Nat} (hb:b<W.heap.size) (hn:¬G b):W'.cell? ⟨b,i,none⟩=W.cell? ⟨b,i,none⟩:=World.cell?_of_block (h.block b hb hn)
theorem Cs.fr {G:Nat→Prop} {W W':World} {g:Nat} {t:TypeId} {cs:Array Value} (h:Cs W g t cs) (hf:Fr G W W') (hn:¬G g):Cs W' g t cs:=(hf.block g h.lt hn).trans h
theorem own_fr {G:Nat→Prop} {W W':World} {base:Nat} {e:TypeId} {size n:Nat} {v:Value} {xs:List Value} (h:W.ownsRow base e size v n xs) (hf:Fr G W W') (hn:∀b,v.ownBlock=some b→¬G b):W'.ownsRow base e size v n xs:=by
 refine ⟨h.1,?_⟩
 rcases h.2 with h2| ⟨g,cap,cur,rfl,hb,hgg,rest⟩
 ·exact .inl h2
 ·exact .inr ⟨g,cap,cur,rfl,hb,(hf.block g (Array.getElem?_eq_some_iff.1 hgg).1 (hn g (by simp[Value.ownBlock]))).trans hgg,rest⟩
theorem own_lt {W:World} {base:Nat} {e:TypeId} {size n:Nat} {v:Value} {xs:List Value} (h:W.ownsRow base e size v n xs) (b:Nat) (hv:v.ownBlock=some b):b<W.heap.size:=by
 rcases h.2 with ⟨rfl,_⟩| ⟨g,cap,cur,rfl,_,hgg,_⟩
 ·simp[Value.ownBlock] at hv
 ·obtain rfl:g=b:=by simpa[Value.ownBlock] using hv
  exact (Array.getElem?_eq_some_iff.1 hgg).1
theorem SrcAt.fr {G:Nat→Prop} {W W':World} {g:Nat} (h:SrcAt W g) (hf:Fr G W W') (hG:∀j,G j→g<j):SrcAt W' g:=
 h.below (B:=g+1) (hf.below (by have:=h.lt;omega) (fun j hj=>hG j hj)) (by omega)
def Turn (F F':Nat→Prop) (W W':World):Prop:=Fr F W W'∧∀j,F' j→F j∨W.heap.size≤j
theorem Turn.refl (F:Nat→Prop) (W:World):Turn F F W W:=⟨Fr.refl _ _,fun j h=>.inl h⟩
theorem Turn.trans {F F' F'':Nat→Prop} {A B C:World} (h:Turn F F' A B) (k:Turn F' F'' B C):Turn F F'' A C:=
 ⟨⟨k.1.os.trans h.1.os,k.1.tape.trans h.1.tape,k.1.output.trans h.1.output,Nat.le_trans h.1.size k.1.size,
  fun j hj hn=>(k.1.block j (Nat.lt_of_lt_of_le hj h.1.size) (fun hc=>(h.2 j hc).elim hn (fun hl=>by omega))).trans (h.1.block j hj hn)⟩,
  fun j hj=>(k.2 j hj).elim (fun h'=>h.2 j h') (fun hl=>.inr (Nat.le_trans h.1.size hl))⟩
theorem Turn.of_below {F:Nat→Prop} {W W':World} (h:Below W.heap.size W W'):Turn F F W W':=⟨Fr.of_below h,fun j h=>.inl h⟩
theorem Turn.out {F F':Nat→Prop} {W W':World} (h:Turn F F' W W') {b:Nat} (hb:b<W.heap.size) (hn:¬F b):¬F' b:=fun hc=>(h.2 b hc).elim hn (fun hl=>by omega)
theorem cs_own_ne {W:World} {b base n:Nat} {t e:TypeId} {cs:Array Value} {size:Nat} {v:Value} {xs:List Value} (h:Cs W b t cs) (hr:W.ownsRow base e size v n xs) (hne:t≠e):∀b',v.ownBlock=some b'→b'≠b:=by
 intro b' hv hbb
 subst hbb
 rcases hr.2 with ⟨rfl,_⟩| ⟨g,cap,cur,rfl,_,hg,_⟩
 ·simp[Value.ownBlock] at hv
 ·obtain rfl:g=b':=by simpa[Value.ownBlock] using hv
  unfold Cs at h
  rw[h] at hg
  simp at hg
  exact hne hg.2
theorem own_own_ne {W:World} {base base' n n':Nat} {e e':TypeId} {size size':Nat} {v v':Value} {xs xs':List Value} (h:W.ownsRow base e size v n xs) (hr:W.ownsRow base' e' size' v' n' xs') (hne:e≠e'):∀b b',v.ownBlock=some b→v'.ownBlock=some b'→b≠b':=by
 intro b b' hv hv' hbb
 subst hbb
 rcases h.2 with ⟨rfl,_⟩| ⟨g,cap,cur,rfl,_,hg,_⟩
 ·simp[Value.ownBlock] at hv
 ·obtain rfl:g=b:=by simpa[Value.ownBlock] using hv
  exact cs_own_ne (W:=W) (b:=g) (cs:=cur) (t:=e) hg hr hne g hv' rfl
theorem fr_set (W:World) (b i:Nat) (u:Value):Fr (fun j=>j=b) W (W.setCell ⟨b,i,none⟩ u):=(Fr.refl (fun j=>j=b) W).set (.inl rfl) u
theorem Fr.trans_ge {F G:Nat→Prop} {A B C:World} (h:Fr F A B) (k:Fr G B C) (hg:∀j,G j→A.heap.size≤j):Fr F A C:=
 ⟨k.os.trans h.os,k.tape.trans h.tape,k.output.trans h.output,Nat.le_trans h.size k.size,fun j hj hn=>(k.block j (Nat.lt_of_lt_of_le hj h.size) (fun hc=>by have:=hg j hc;omega)).trans (h.block j hj hn)⟩
theorem fr_grown {A B:World} {v:Value} (h:A.grownBy B v.ownBlock):Fr (fun j=>v.ownBlock=some j) A B:=⟨h.os,h.tape,h.output,h.size,fun j hj hn=>h.block j hj (fun e=>hn e.symm)⟩
theorem Reads.fr {G:Nat→Prop} {W W':World} {B:Option Addr} {l:List Value} (h:Reads W B l) (hf:Fr G W W') (hn:l.length≠0→∀p,B=some p→¬G p.block):Reads W' B l:=by
 intro h0
 obtain ⟨b,o,e,hlt,hc⟩:=h h0
 subst e
 exact ⟨b,o,rfl,Nat.lt_of_lt_of_le hlt hf.size,fun j u hj=>(hf.cell (b:=b) (i:=o+j) hlt (hn h0 _ rfl)).trans (hc j u hj)⟩
theorem Turn.set {F F':Nat→Prop} {W W':World} (h:Turn F F' W W') {b i:Nat} (hb:F b∨W.heap.size≤b) (u:Value):Turn F F' W (W'.setCell ⟨b,i,none⟩ u):=⟨h.1.set hb u,h.2⟩
theorem Turn.drew {F F':Nat→Prop} {W W':World} (h:Turn F F' W W'):Turn F F' W W'.drew:=⟨h.1.drew,h.2⟩
def valElem (v:Value):Option (DataW Value × List MemPlace):=some (.held v,[])
end
section
structure Nd where
 lv:Nat
 sq:Nat
 es:List (Int × Nat)
structure Mp where
 now:List Nat
 old:List Nat
def Mp.count (m:Mp) (b:Nat):Nat:=m.now[b]?.getD 0
def Mp.was (m:Mp) (b:Nat):Nat:=m.old[b]?.getD 0
def Mp.isFree (m:Mp) (b:Nat):Bool:=decide (m.count b=0∧m.was b=0)
def Mp.pick (m:Mp):Option Nat:=(List.range m.now.length).find? m.isFree
def Mp.setN (m:Mp) (b x:Nat):Mp:=⟨m.now.set b x,m.old⟩
def Mp.inc (m:Mp) (b:Nat):Mp:=m.setN b (m.count b+1)
def Mp.dec (m:Mp) (b:Nat):Mp:=m.setN b (m.count b - 1)
def Mp.incs (m:Mp) (l:List Nat):Mp:=l.foldl Mp.inc m
def Mp.free (m:Mp):Nat:=(List.range m.now.length).countP m.isFree
section
variable {m:Mp} {b u x:Nat}
theorem Mp.setN_len (m:Mp) (b x:Nat):(m.setN b x).now.length=m.now.length:=by simp[Mp.setN]
theorem Mp.setN_old (m:Mp) (b x:Nat):(m.setN b x).old=m.old:=rfl
theorem Mp.count_setN (hb:b<m.now.length) (u:Nat):(m.setN b x).count u=if u=b then x else m.count u:=by
 unfold Mp.count Mp.setN
 by_cases h:u=b
 ·subst h
  rw[if_pos rfl,List.getElem?_set_self hb]
  rfl
 ·rw[if_neg h,List.getElem?_set_ne (fun e=>h e.symm)]
theorem Mp.count_out (hb:m.now.length≤b):m.count b=0:=by
 unfold Mp.count
 rw[List.getElem?_eq_none hb]
 rfl
theorem Mp.lt_of_count (h:m.count b≠0):b<m.now.length:=by
 rcases Nat.lt_or_ge b m.now.length with h1|h1
 ·exact h1
 ·exact absurd (Mp.count_out h1) h
theorem Mp.count_inc (hb:b<m.now.length) (u:Nat):(m.inc b).count u=m.count u+if u=b then 1 else 0:=by
 unfold Mp.inc
 rw[Mp.count_setN hb]
 by_cases h:u=b
 ·subst h;rw[if_pos rfl,if_pos rfl]
 ·rw[if_neg h,if_neg h];rfl
theorem Mp.count_dec (hb:b<m.now.length) (u:Nat):(m.dec b).count u=m.count u - if u=b then 1 else 0:=by
 unfold Mp.dec
 rw[Mp.count_setN hb]
 by_cases h:u=b
 ·subst h;rw[if_pos rfl,if_pos rfl]
 ·rw[if_neg h,if_neg h];rfl
theorem Mp.incs_len (l:List Nat):∀m:Mp,(m.incs l).now.length=m.now.length∧(m.incs l).old=m.old:=by
 induction l with
 |nil=>intro m;exact ⟨rfl,rfl⟩
 |cons b l ih=>
  intro m
  obtain ⟨h1,h2⟩:=ih (m.inc b)
  exact ⟨h1.trans (Mp.setN_len _ _ _),h2.trans (Mp.setN_old _ _ _)⟩
theorem Mp.count_incs (l:List Nat):∀m:Mp,(∀b∈l,b<m.now.length)→∀u,(m.incs l).count u=m.count u+l.count u:=by
 induction l with
 |nil=>intro m _ u;simp[Mp.incs]
 |cons b l ih=>
  intro m h u
  have h1:=ih (m.inc b) (fun c hc=>by rw[Mp.inc,Mp.setN_len];exact h c (List.mem_cons_of_mem _ hc)) u
  rw[show m.incs (b :: l)=(m.inc b).incs l from rfl,h1,Mp.count_inc (h b List.mem_cons_self),List.count_cons]
  by_cases e:u=b
  ·subst e;simp;omega
  ·have e':¬b=u:=fun q=>e q.symm
   simp[e,e']
theorem Mp.pick_some (h:m.pick=some b):b<m.now.length∧m.count b=0∧m.was b=0:=by
 have h1:=List.find?_some h
 have h2:=List.mem_of_find?_eq_some h
 rw[List.mem_range] at h2
 unfold Mp.isFree at h1
 have h3:=of_decide_eq_true h1
 exact ⟨h2,h3⟩
theorem Mp.pick_none (h:m.pick=none):m.free=0:=by
 unfold Mp.pick at h
 unfold Mp.free
 rw[List.countP_eq_zero]
 intro x hx
 have:=List.find?_eq_none.1 h x hx
 exact this
end
def sumR (n:Nat) (f:Nat→Nat):Nat:=((List.range n).map f).sum
theorem sumR_succ (n:Nat) (f:Nat→Nat):sumR (n+1) f=sumR n f+f n:=by simp[sumR,List.range_succ]
theorem sumR_congr {f g:Nat→Nat}:∀(n:Nat),(∀w,w<n→f w=g w)→sumR n f=sumR n g
 |0,_=>rfl
 |n+1,h=>by rw[sumR_succ,sumR_succ,sumR_congr n (fun w hw=>h w (by omega)),h n (by omega)]
theorem sumR_upd {f g:Nat→Nat} {w:Nat}:∀(n:Nat),w<n→(∀v,v≠w→f v=g v)→sumR n g+f w=sumR n f+g w
 |0,h,_=>by omega
 |n+1,h,he=>by
  rw[sumR_succ,sumR_succ]
  by_cases e:w=n
  ·subst e
   rw[sumR_congr (f:=f) (g:=g) w (fun v hv=>he v (by omega))]
   omega
  ·have:=sumR_upd n (show w<n by omega) he
   rw[he n (fun q=>e q.symm)]
   omega
theorem sumR_zero {f:Nat→Nat}:∀(n:Nat),sumR n f=0↔∀w,w<n→f w=0
 |0=>⟨fun _ _ h=>by omega,fun _=>rfl⟩
 |n+1=>by
  rw[sumR_succ,Nat.add_eq_zero_iff,sumR_zero n]
  constructor
  ·rintro ⟨h1,h2⟩ w hw
   by_cases e:w=n
   ·subst e;exact h2
   ·exact h1 w (by omega)
  ·exact fun h=>⟨fun w hw=>h w (by omega),h n (by omega)⟩
theorem sumR_le {f:Nat→Nat} {n w:Nat} (hw:w<n):f w≤sumR n f:=by
 induction n with
 |zero=>omega
 |succ n ih=>
  rw[sumR_succ]
  by_cases e:w=n
  ·subst e;omega
  ·have:=ih (by omega);omega
end
end Go.Proofs.YtplhdjdkobddnaaGreat
