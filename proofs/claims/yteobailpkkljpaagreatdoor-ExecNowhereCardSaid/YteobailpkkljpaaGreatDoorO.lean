/- Decimal numerals; words with blanks between. -/
import Derived.Test.YteobailpkkljpaaGreatDoorM3
import Derived.Lib.LaidU8
import Derived.Shelf.Spec.TrailingZeros
import Derived.Lib.ItoaNum
set_option linter.unusedSimpArgs false
set_option linter.unusedVariables false
namespace Go.Jq
theorem decF_fuel:∀{f u:Nat},u<10^(f+1)→decF f u=decF (f+1) u:=by
 intro f
 induction f with
 | zero=>intro u h;simp at h;simp[decF,h]
 | succ f ih=>
  intro u h
  show(if u<10 then [UInt8.ofNat (48+u)]else decF f (u / 10)++[UInt8.ofNat (48+u % 10)])=if u<10 then [UInt8.ofNat (48+u)]else decF (f+1) (u / 10)++[UInt8.ofNat (48+u % 10)]
  split
  ·rfl
  ·rw[ih (by rw[Nat.pow_succ]at h;omega)]
def dec(u:Nat):List UInt8:=decF 20 u
theorem dec_small{u:Nat}(h:u<10):dec u=[UInt8.ofNat (48+u)]:=by unfold dec decF;rw[if_pos h]
theorem dec_big{u:Nat}(h:¬u<10)(hu:u<2^64):dec u=dec (u / 10)++[UInt8.ofNat (48+u % 10)]:=by
 show(if u<10 then [UInt8.ofNat (48+u)]else decF 19 (u / 10)++[UInt8.ofNat (48+u % 10)])=_
 rw[if_neg h,decF_fuel (by omega)];rfl
theorem itoaF_eq{n:Int}:itoaF n=if n<0 then 45::dec n.natAbs else dec n.toNat:=rfl
def I64(n:Int):Prop:=-9223372036854775808≤n∧n≤9223372036854775807
end Go.Jq
namespace Go.Jq
open Go.RowKit
section
variable {C:Ctx} {γ:Gm} {h:AH} {w w':World}
theorem HR.more(H:HR C γ h w)(hb:Below w.heap.size w w'):HR C γ h w':=by
 have hs:∀(B:Nat) (o:Obj),w.heap[B]?=some o→w'.heap[B]?=some o:=fun B o e=>by
  have hlt:B<w.heap.size:=(Array.getElem?_eq_some_iff.1 e).1
  rw[hb.block B hlt];exact e
 refine⟨H.below.trans (hb.mono H.size),H.low,fun b B s N e=>?_,H.inj,H.dom⟩
 have k:=H.blk b B s N e
 cases ho:h.get b with
 | dead=>trivial
 | map es clk=>
  rw[ho]at k
  obtain⟨es',k1,k2⟩:=k
  exact⟨es',hs _ _ k1,k2⟩
 | cells c g ro=>
  rw[ho]at k
  obtain⟨D,E,lo,hi,k1,k2⟩:=k
  exact⟨D,E,lo,hi,hs _ _ k1,k2⟩
theorem strsOf_get{l:List Value}{xs:List ByteArray}(H:strsOf l=some xs):l=xs.map .string:=by
 induction l generalizing xs with
 | nil=>simp only[strsOf,Option.some.injEq]at H;subst H;rfl
 | cons v l ih=>
  cases v with
  | string s=>
   simp only[strsOf]at H
   split at H
   ·rename_i r hr
    simp only[Option.some.injEq]at H;subst H
    rw[ih hr];rfl
   ·simp at H
  | _=>simp[strsOf]at H
theorem VR.slice_cap{ad:Addr}{l c:Nat}{v:Value}(hv:VR C γ (.slice (some ad) l c) v)(h0:0<l):∃B s N c',γ ad.block=some (B,s,N)∧v=.slice (some ⟨B,s+ad.off,none⟩) l c'∧c≤c':=by
 cases hv
 case slX hb=>exact⟨_,_,_,_,hb,rfl,Nat.le_refl _⟩
 case slI hb h1 h2 h3=>exact⟨_,_,_,_,hb,rfl,h2⟩
 case slE hb=>omega
theorem natOk_join{F:FuncId}(hz:∀(a:Option Addr) (c:Nat) (sep:ByteArray) (w:World),Calls C.P F #[.slice a 0 c,.string sep] w fun e w'=>e=.returned (.string ⟨#[]⟩)∧w'=w)(hc:∀(bk o c:Nat) (xs:List ByteArray) (sep:ByteArray) (w:World),(∀(j:Nat) x,xs[j]?=some x→w.cell? ⟨bk,o+j,none⟩=some (.string x))→bk<w.heap.size→xs.length≤140737488355328→xs.length≤c→(joinOf xs sep).length≤140737488355328→
  Calls C.P F #[.slice (some ⟨bk,o,none⟩) xs.length c,.string sep] w fun e w'=>e=.returned (.string ⟨(joinOf xs sep).toArray⟩)∧Below w.heap.size w w'):NatOk C 2 F:=by
 refine .still (fun h args=>by unfold natHeap;split<;>simp_all) ?_
 intro h γ w args args' v hv H ha
 simp only[natOf]at hv
 split at hv
 ·rename_i ad n c sep _
  split at hv
  ·rename_i cs hl
   split at hv
   ·rename_i xs hx
    split at hv
    ·rename_i hk
     simp only[Option.some.injEq]at hv;subst hv
     have hcs:=strsOf_get hx
     have hargs:∃v1 v2,args'=#[v1,v2]∧VR C γ (.slice (some ad) n c) v1∧VR C γ (.string sep) v2:=by
      obtain⟨l⟩:=args'
      cases ha with
      | cons r1 ha=>cases ha with
       | cons r2 ha=>cases ha with
        | nil=>exact⟨_,_,rfl,r1,r2⟩
     obtain⟨v1,v2,rfl,r1,r2⟩:=hargs
     obtain⟨B,s,N,c',hb,rfl,hcc⟩:=r1.slice_cap hk.2.2.1
     rw[r2.str_inv]
     obtain⟨l',k1,k2,k3,k4,k5⟩:=H.load hb hl
     have hn:xs.length=n:=by rw[←k3,hcs,List.length_map]
     have hcell:∀(j:Nat) x,xs[j]?=some x→w.cell? ⟨B,s+ad.off+j,none⟩=some (.string x):=by
      intro j x hj
      have hlt:=(List.getElem?_eq_some_iff.1 hj).1
      have h1:h.load1 ad.block (ad.off+j)=some (.string x):=by
       unfold AH.load at hl
       unfold AH.load1
       split at hl
       ·rename_i c0 g ro e0
        split at hl
        ·rename_i hle
         simp only[Option.some.injEq]at hl
         have:cs[j]?=some (.string x):=by rw[hcs,List.getElem?_map,hj];rfl
         rw[←hl,List.getElem?_take,if_pos (by omega),List.getElem?_drop]at this
         exact this
        ·simp at hl
       ·simp at hl
      obtain⟨u,u1,u2,_⟩:=H.load1 hb h1
      rw[u2.str_inv,←Nat.add_assoc]at u1
      exact u1
     have hB:B<w.heap.size:=by
      have:=hcell 0 (xs[0]'(by omega)) (by rw[List.getElem?_eq_getElem (by omega)])
      unfold World.cell? at this
      split at this
      ·rename_i e0;exact(Array.getElem?_eq_some_iff.1 e0).1
      ·simp at this
     have:=hc B (s+ad.off) c' xs sep w hcell hB (by omega) (by omega) (by omega)
     rw[hn]at this
     refine this.mono fun e w' ⟨he,hbel⟩=>?_
     exact⟨_,γ,he,.same (Nat.le_refl _),H.more hbel,.str⟩
    ·simp at hv
   ·simp at hv
  ·simp at hv
 ·rename_i sep _
  simp only[Option.some.injEq]at hv;subst hv
  have hargs:∃v1 v2,args'=#[v1,v2]∧VR C γ (.slice none 0 0) v1∧VR C γ (.string sep) v2:=by
   obtain⟨l⟩:=args'
   cases ha with
   | cons r1 ha=>cases ha with
    | cons r2 ha=>cases ha with
     | nil=>exact⟨_,_,rfl,r1,r2⟩
  obtain⟨v1,v2,rfl,r1,r2⟩:=hargs
  have e1:v1=.slice none 0 0:=by cases r1;rfl
  rw[r2.str_inv,e1]
  refine(hz none 0 sep w).mono fun e w' ⟨he,hw'⟩=>?_
  subst hw'
  exact⟨_,γ,he,.same (Nat.le_refl _),H,.str⟩
 all_goals simp_all
end
end Go.Jq
namespace Go.Jq
open Go.RowKit Go.Lib Go.Proofs
theorem natOk_tz{C:Ctx}{F:FuncId}{g:Nat}(hg:g<C.base)(hT:TabAt g deBruijn64tab C.w0)
  (hc:∀(x:Nat),x<18446744073709551616→∀w:World,(x≠0→TabAt g deBruijn64tab w)→Calls C.P F #[.int .u64 x] w fun e w'=>e=.returned (.int .i64 (ctz 64 x))∧w'=w):NatOk C 0 F:=by
 refine .still (fun h args=>by unfold natHeap;split<;>simp_all) ?_
 intro h γ w args args' v hv H ha
 simp only[natOf]at hv
 split at hv<;>try (simp_all;done)
 rename_i x _
 split at hv
 ·rename_i hx
  simp only[Option.some.injEq]at hv;subst hv
  have hargs:∃v1,args'=#[v1]∧VR C γ (.int .u64 x) v1:=by
   obtain⟨l⟩:=args'
   cases ha with
   | cons r1 ha=>cases ha with
    | nil=>exact⟨_,rfl,r1⟩
  obtain⟨v1,rfl,r1⟩:=hargs
  rw[r1.int_inv]
  have hw:TabAt g deBruijn64tab w:=fun j hj=>by
   rw[H.below.cell (by exact hg)];exact hT j hj
  have:=hc x.toNat (by omega) w fun _=>hw
  rw[show((x.toNat:Nat):Int)=x by omega]at this
  refine this.mono fun e w' ⟨he,hw'⟩=>?_
  subst hw'
  exact⟨_,γ,he,.same (Nat.le_refl _),H,.int⟩
 ·simp at hv
def tzData:DataW Unit:=tabData .u8 (deBruijn64tab.map fun(n:Nat)=>(n:Int))
theorem tab_reads {P : Program} {g t e : Nat} {w : World} (hn : P.globalNamed "math/bits.deBruijn64tab" = some g) (hy : (P.globals[g]?).map (·.type) = some t) (ht : P.underlying t = some (.array 64 e)) (he : P.underlying e = some (.int .u8)) (ce : P.cellsOf e = 1) (ct : P.cellsOf t = 64)
  (h : VarReads P w "math/bits.deBruijn64tab" tzData) : TabAt g deBruijn64tab w := by
 intro j hj
 obtain⟨g',t',cs,fuel,p,hg,hty,hvar,hd⟩:=h
 obtain rfl:=Option.some.inj (hn.symm.trans hg)
 obtain rfl:=Option.some.inj (hy.symm.trans hty)
 have hcs:=cells_of_tab ht he ce ct hd
 have:=World.var?_cell hg hvar j
 rw[this,←Array.getElem?_toList,hcs,List.map_map,List.getElem?_map,List.getElem?_eq_getElem hj]
 simp[List.getD,hj]
end Go.Jq
namespace Go.Jq
open Go.RowKit Go.Lib
theorem dec_lib:∀{u:Nat},u<2^64→dec u=Lib.decDigits u:=by
 intro u
 induction u using Nat.strongRecOn with
 | _ u ih=>
  intro hu
  rw[Lib.decDigits]
  by_cases h:u<10
  ·rw[dec_small h,dif_pos h]
  ·rw[dec_big h hu,dif_neg h,ih (u / 10) (by omega) (by omega)]
theorem itoa_lib{n:Int}(h:I64 n):itoaF n=Lib.itoa n:=by
 unfold I64 at h
 rw[itoaF_eq]
 unfold Lib.itoa
 split
 ·rw[dec_lib (by omega)]
 ·rw[dec_lib (by omega)]
section
variable {C:Ctx}
theorem natOk_itoa{F:FuncId}(hT:∀w:World,Below C.base C.w0 w→∀n:Int,I64 n→Calls C.P F #[.int .i64 n,.int .i64 10] w fun e w'=>e=.returned (.string ⟨(Lib.itoa n).toArray⟩)∧Below w.heap.size w w'):NatOk C 3 F:=by
 refine .still (fun h args=>by unfold natHeap;split<;>simp_all) ?_
 intro h γ w args args' v hv H ha
 simp only[natOf]at hv
 split at hv<;>try (simp_all;done)
 rename_i n b _
 split at hv
 ·rename_i hx
  simp only[Option.some.injEq]at hv;subst hv
  have hargs:∃v1 v2,args'=#[v1,v2]∧VR C γ (.int .i64 n) v1∧VR C γ (.int .i64 b) v2:=by
   obtain⟨l⟩:=args'
   cases ha with
   | cons r1 ha=>cases ha with
    | cons r2 ha=>cases ha with
     | nil=>exact⟨_,_,rfl,r1,r2⟩
  obtain⟨v1,v2,rfl,r1,r2⟩:=hargs
  rw[r1.int_inv,r2.int_inv,hx.1,itoa_lib (n:=n) ⟨hx.2.1,by have:=hx.2.2;omega⟩]
  refine(hT w H.below n ⟨hx.2.1,by have:=hx.2.2;omega⟩).mono fun e w' ⟨he,hbel⟩=>?_
  exact⟨_,γ,he,.same (Nat.le_refl _),H.more hbel,.str⟩
 ·simp at hv
end
end Go.Jq
namespace Go.Jq
open Go.RowKit Go.Lib
section
variable {C:Ctx}
theorem HR.gain{γ:Gm}{h:AH}{w w':World}(H:HR C γ h w)(hb:Below w.heap.size w w'){g N:Nat}{obj:Obj}(hg:w'.heap[g]?=some obj)(hge:w.heap.size≤g){o:ABlk}(hB:BR C (gset γ h.next (g,0,N)) o (some obj) g 0 N):
  Sub γ (gset γ h.next (g,0,N))∧HR C (gset γ h.next (g,0,N)) (h.alloc o) w':=by
 have hs:=gset_sub (x:=(g,0,N)) (H.dom _ (Nat.le_refl _))
 have M:=(H.more hb).grow o
 have key:∀b' s' N',γ b'=some (g,s',N')→(h.get b').wr=true→False:=by
  intro b' s' N' hb' hw
  have k:=H.blk b' _ s' N' hb'
  have hn:w.heap[g]?=none:=Array.getElem?_eq_none hge
  rw[hn]at k
  cases ho:h.get b' with
  | dead=>rw[ho]at hw;simp[ABlk.wr]at hw
  | cells c g ro=>rw[ho]at k;obtain⟨_,_,_,_,k1,_⟩:=k;simp at k1
  | map es clk=>rw[ho]at k;obtain⟨_,k1,_⟩:=k;simp at k1
 have lt:∀{b' x},γ b'=some x→b'≠h.next:=fun{b' x} e e2=>by
  rw[e2,H.dom _ (Nat.le_refl _)]at e;simp at e
 refine⟨hs,M.below,M.low,?_,?_,?_⟩
 ·intro b' B s N' hb'
  unfold gset at hb'
  split at hb'
  ·rename_i e
   subst e
   simp only[Option.some.injEq,Prod.mk.injEq]at hb'
   obtain⟨rfl,rfl,rfl⟩:=hb'
   rw[AH.alloc_get,if_pos rfl,hg]
   exact hB
  ·exact(M.blk b' B s N' hb').mono hs
 ·intro b1 b2 B s1 N1 s2 N2 q1 q2 w1 w2
  unfold gset at q1 q2
  split at q1<;>split at q2
  ·rename_i e1 e2;rw[e1,e2]
  ·simp only[Option.some.injEq,Prod.mk.injEq]at q1
   obtain⟨rfl,rfl,rfl⟩:=q1
   rw[AH.alloc_get,if_neg (lt q2)]at w2
   exact(key b2 _ _ q2 w2).elim
  ·simp only[Option.some.injEq,Prod.mk.injEq]at q2
   obtain⟨rfl,rfl,rfl⟩:=q2
   rw[AH.alloc_get,if_neg (lt q1)]at w1
   exact(key b1 _ _ q1 w1).elim
  ·exact M.inj b1 b2 B s1 N1 s2 N2 q1 q2 w1 w2
 ·intro b' hb'
  rw[AH.alloc_next]at hb'
  unfold gset
  rw[if_neg (by omega)]
  exact H.dom b' (by omega)
theorem natOk_seq{F V:FuncId}{E:TypeId}(hV:C.φ 152=V)(hc:∀(Bs s0 b off cap:Nat) (x:Int) (w:World),Bs<w.heap.size→b<w.heap.size→w.cell? ⟨Bs,s0,none⟩=some (.slice (some ⟨b,off,none⟩) 1 cap)→w.cell? ⟨b,off,none⟩=some (.int .i64 x)→
  Calls C.P F #[.slice none 0 0,.func (.func V) #[] #[.pointer (some ⟨Bs,s0,none⟩)]] w fun e w'=>∃(g c:Nat) (cur:Array Value),e=.returned (.slice (some ⟨g,0,none⟩) 1 c)∧w.heap.size≤g∧w'.heap[g]?=some (.cells cur E (0,0))∧1≤c∧cur.size=c∧cur.toList.take 1=[.int .i64 x]∧Below w.heap.size w w'):NatOk C 4 F:=by
 refine⟨fun h γ w args args' v hv H ha=>by simp[natOf]at hv,fun h γ w args args' v h1 hv H ha=>?_⟩
 unfold natHeap at hv
 split at hv
 ·rename_i l c f a b _
  split at hv
  ·rename_i p ea eb
   split at hv
   ·rename_i hx
    obtain⟨rfl,rfl,rfl⟩:=hx
    split at hv
    ·rename_i q _ e1
     split at hv
     ·rename_i x e2
      simp only[Option.some.injEq,Prod.mk.injEq]at hv
      obtain⟨rfl,rfl⟩:=hv
      have hargs:∃v1 v2,args'=#[v1,v2]∧VR C γ (.slice none 0 0) v1∧VR C γ (.func (.func 152) a b) v2:=by
       obtain⟨l⟩:=args'
       cases ha with
       | cons r1 ha=>cases ha with
        | cons r2 ha=>cases ha with
         | nil=>exact⟨_,_,rfl,r1,r2⟩
      obtain⟨v1,v2,rfl,r1,r2⟩:=hargs
      have ev1:v1=.slice none 0 0:=by cases r1;rfl
      subst ev1
      have hv2:∃p':Value,v2=.func (.func V) #[] #[p']∧VR C γ (.pointer (some p)) p':=by
       cases r2 with
       | func hL fa fb=>
        rename_i a' b'
        rw[ea]at fa
        rw[eb]at fb
        obtain⟨a'⟩:=a'
        obtain⟨b'⟩:=b'
        cases fa
        cases fb with
        | cons r3 fb=>cases fb;exact⟨_,by rw[hV],r3⟩
      obtain⟨p',rfl,rp⟩:=hv2
      have hp:∃B s N,γ p.block=some (B,s,N)∧p'=.pointer (some ⟨B,s+p.off,none⟩):=by
       cases rp with
       | ptr hb=>exact⟨_,_,_,hb,rfl⟩
      obtain⟨B,s,N,hpb,rfl⟩:=hp
      obtain⟨u,u1,u2,_⟩:=H.load1 hpb e1
      obtain⟨B2,s2,N2,c',hqb,rfl,_⟩:=u2.slice_cap (by omega)
      obtain⟨u3,u4,u5,_⟩:=H.load1 hqb e2
      rw[u5.int_inv]at u4
      have lt:∀{B o:Nat} {u:Value},w.cell? ⟨B,o,none⟩=some u→B<w.heap.size:=fun{B o u} h=>by
       unfold World.cell? at h
       split at h
       ·rename_i e0;exact(Array.getElem?_eq_some_iff.1 e0).1
       ·simp at h
      refine(hc B (s+p.off) B2 (s2+q.off) c' x w (lt u1) (lt u4) u1 u4).mono ?_
      rintro e w' ⟨g,c2,cur,rfl,k1,k2,k3,k4,k5,k6⟩
      obtain⟨q1,q2⟩:=H.gain k6 (N:=cur.size) k2 k1 (o:=.cells [.int .i64 x] true false) (BR.new (by rw[List.length_singleton,k5];exact .cons .int .nil) (by rw[List.length_singleton];omega) (by intro x hx;simp at hx;subst hx;rfl) (Nat.le_trans H.size k1))
      refine⟨_,_,rfl,⟨q1,fun b hb=>by unfold gset;rw[if_neg (by omega)],by rw[AH.alloc_next];omega⟩,q2,?_⟩
      exact VR.slI (s:=0) (o:=0) (N:=cur.size) (B:=g) (by simp[gset]) (Nat.le_refl _) k3 (by omega)
     ·simp at hv
    ·simp at hv
   ·simp at hv
  ·simp at hv
 ·simp at hv
end
end Go.Jq
