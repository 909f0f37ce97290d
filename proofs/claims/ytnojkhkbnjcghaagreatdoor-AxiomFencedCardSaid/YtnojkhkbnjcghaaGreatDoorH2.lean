/- Blocks of one's own, laid in a row behind memory; runs seen anew at their end. -/
import Derived.Test.YtnojkhkbnjcghaaGreatDoorM3
import Derived.Test.YtnojkhkbnjcghaaGreatDoorM2
import Derived.Test.YtnojkhkbnjcghaaGreatDoorH
import Derived.Test.YtnojkhkbnjcghaaGreatDoorC
import Derived.Test.YtnojkhkbnjcghaaGreatDoorC1
set_option linter.unusedSimpArgs false
set_option linter.unusedVariables false
namespace Go.Jq
variable {G:Nat→SFunc}
def AH.lays (h:AH) (L:List ABlk):AH:=⟨h.next+L.length,fun i=>if i < h.next then h.get i else (L[i - h.next]?).getD (h.get i)⟩
section
variable {h:AH} {L M:List ABlk} {o:ABlk} {b i:Nat}
theorem AH.ext2 {a b:AH} (h1:a.next=b.next) (h2:∀ i,a.get i=b.get i):a=b:=by
  cases a;cases b;simp at h1 h2;subst h1;congr 1;funext i;exact h2 i
@[simp] theorem AH.lays_nil:h.lays []=h:=AH.ext2 rfl fun i=>by simp [AH.lays]
@[simp] theorem AH.lays_next:(h.lays L).next=h.next+L.length:=rfl
theorem AH.lays_lt (hb:b < h.next):(h.lays L).get b=h.get b:=by simp [AH.lays,hb]
@[simp] theorem AH.lays_get:(h.lays L).get (h.next+i)=(L[i]?).getD (h.get (h.next+i)):=by
  show (if h.next+i < h.next then _ else _)=_
  rw [if_neg (by omega),Nat.add_sub_cancel_left]
@[simp] theorem AH.lays_get0:(h.lays L).get h.next=(L[0]?).getD (h.get h.next):=by simp [AH.lays]
@[simp] theorem AH.lays_lays:(h.lays L).lays M=h.lays (L++M):=AH.ext2 (by simp [Nat.add_assoc]) fun i=>by
  simp only [AH.lays,List.getElem?_append]
  by_cases h1:i < h.next
  · simp [h1,show i < h.next+L.length by omega]
  · by_cases h2:i < h.next+L.length
    · simp [h1,h2,show i - h.next < L.length by omega]
    · simp only [h1,h2,show ¬ (i - h.next < L.length) by omega,if_false]
      rw [show i - (h.next+L.length)=i - h.next - L.length by omega,show L[i - h.next]?=none from List.getElem?_eq_none (by omega)]
      simp
@[simp] theorem AH.alloc_lays:h.alloc o=h.lays [o]:=AH.ext2 (by simp [AH.alloc]) fun i=>by
  simp only [AH.lays,AH.alloc]
  by_cases h1:i < h.next
  · simp [h1,show ¬ i=h.next by omega]
  · by_cases h2:i=h.next
    · subst h2;simp
    · rw [if_neg h2,if_neg h1,List.getElem?_eq_none (by simp;omega)];rfl
@[simp] theorem AH.lays_put (hi:i < L.length):(h.lays L).put (h.next+i) o=h.lays (L.set i o):=AH.ext2 (by simp [AH.put]) fun j=>by
  simp only [AH.lays,AH.put,List.getElem?_set]
  by_cases h1:j < h.next
  · simp [h1,show ¬ j=h.next+i by omega]
  · by_cases h2:j=h.next+i
    · subst h2;rw [if_pos rfl,if_neg h1,if_pos (by omega),if_pos (by omega)];rfl
    · rw [if_neg h2,if_neg h1,if_neg h1,if_neg (by omega)]
@[simp] theorem AH.lays_put0 (hi:0 < L.length):(h.lays L).put h.next o=h.lays (L.set 0 o):=AH.lays_put (i:=0) hi
theorem Ext.lays:Ext h (h.lays L):=⟨by simp,fun _ hi=>AH.lays_lt hi⟩
theorem Ext.lays' {h0:AH} (x:Ext h0 h):Ext h0 (h.lays L):=x.trans .lays
end
abbrev idn:Nat→Nat:=fun b=>b
abbrev Clean (n:Nat) (v:Value):Prop:=RV (fun _=>False) idn n v v
mutual
theorem RV.more {K K':Value→Prop} {ρ ρ':Nat→Nat} {n n':Nat} (hK:∀ v,K v→K' v) (hn:n≤n') (hρ:∀ b,b < n→ρ' b=ρ b):∀ {v u:Value},RV K ρ n v u→RV K' ρ' n' v u
  | _,_,.keep h=>.keep (hK _ h)
  | _,_,.bool=>.bool
  | _,_,.int=>.int
  | _,_,.str=>.str
  | _,_,.ptr0=>.ptr0
  | _,_,.ptr h=>by rw [← hρ _ h];exact .ptr (Nat.lt_of_lt_of_le h hn)
  | _,_,.sl0=>.sl0
  | _,_,.sl h=>by rw [← hρ _ h];exact .sl (Nat.lt_of_lt_of_le h hn)
  | _,_,.map0=>.map0
  | _,_,.map h=>by rw [← hρ _ h];exact .map (Nat.lt_of_lt_of_le h hn)
  | _,_,.func0=>.func0
  | _,_,.func h k=>.func (RV.moreL hK hn hρ h) (RV.moreL hK hn hρ k)
  | _,_,.agg h=>.agg (RV.moreL hK hn hρ h)
  | _,_,.tuple h=>.tuple (RV.moreL hK hn hρ h)
theorem RV.moreL {K K':Value→Prop} {ρ ρ':Nat→Nat} {n n':Nat} (hK:∀ v,K v→K' v) (hn:n≤n') (hρ:∀ b,b < n→ρ' b=ρ b):∀ {l m:List Value},FA2 (RV K ρ n) l m→FA2 (RV K' ρ' n') l m
  | _,_,.nil=>.nil
  | _,_,.cons h k=>.cons (RV.more hK hn hρ h) (RV.moreL hK hn hρ k)
end
section
variable {K:Value→Prop} {ρ:Nat→Nat} {n:Nat}
@[simp] theorem FA2_nil {α β:Type} {R:α→β→Prop}:FA2 R [] []=True:=eq_true .nil
@[simp] theorem FA2_cons {α β:Type} {R:α→β→Prop} {a:α} {b:β} {l:List α} {m:List β}:FA2 R (a::l) (b::m)=(R a b∧FA2 R l m) :=
  propext ⟨fun h=>by cases h with | cons h k=>exact ⟨h,k⟩,fun h=>.cons h.1 h.2⟩
@[simp] theorem RV_bool {b:Bool}:RV K ρ n (.bool b) (.bool b)=True:=eq_true .bool
@[simp] theorem RV_int {k:IntKind} {i:Int}:RV K ρ n (.int k i) (.int k i)=True:=eq_true .int
@[simp] theorem RV_str {s:ByteArray}:RV K ρ n (.string s) (.string s)=True:=eq_true .str
@[simp] theorem RV_ptr0:RV K ρ n (.pointer none) (.pointer none)=True:=eq_true .ptr0
@[simp] theorem RV_sl0 {l c:Nat}:RV K ρ n (.slice none l c) (.slice none l c)=True:=eq_true .sl0
@[simp] theorem RV_map0:RV K ρ n (.map none) (.map none)=True:=eq_true .map0
@[simp] theorem RV_func0:RV K ρ n .nilFunc .nilFunc=True:=eq_true .func0
@[simp] theorem RV_aggL {a b:List Value}:RV (fun _=>False) ρ n (.agg a.toArray) (.agg b.toArray)=FA2 (RV (fun _=>False) ρ n) a b:=propext ⟨fun h=>by cases h with | keep h=>exact h.elim | agg h=>simpa using h,fun h=>.agg (by simpa using h)⟩
@[simp] theorem RV_tupL {a b:List Value}:RV (fun _=>False) ρ n (.tuple a.toArray) (.tuple b.toArray)=FA2 (RV (fun _=>False) ρ n) a b:=propext ⟨fun h=>by cases h with | keep h=>exact h.elim | tuple h=>simpa using h,fun h=>.tuple (by simpa using h)⟩
theorem RV.lt_ptr {b o:Nat} {sp:Option Nat} {u:Value} (h:RV (fun _=>False) ρ n (.pointer (some ⟨b,o,sp⟩)) u):b < n:=by
  cases h
  · contradiction
  · assumption
theorem RV.lt_sl {b o l c:Nat} {sp:Option Nat} {u:Value} (h:RV (fun _=>False) ρ n (.slice (some ⟨b,o,sp⟩) l c) u):b < n:=by
  cases h
  · contradiction
  · assumption
theorem RV.lt_map {b:Nat} {u:Value} (h:RV (fun _=>False) ρ n (.map (some b)) u):b < n:=by
  cases h
  · contradiction
  · assumption
@[simp] theorem Clean_ptr {b o:Nat} {sp:Option Nat}:Clean n (.pointer (some ⟨b,o,sp⟩))=(b < n):=propext ⟨RV.lt_ptr,fun h=>.ptr (ρ:=idn) h⟩
@[simp] theorem Clean_sl {b o l c:Nat} {sp:Option Nat}:Clean n (.slice (some ⟨b,o,sp⟩) l c)=(b < n):=propext ⟨RV.lt_sl,fun h=>.sl (ρ:=idn) h⟩
@[simp] theorem Clean_map {b:Nat}:Clean n (.map (some b))=(b < n):=propext ⟨RV.lt_map,fun h=>.map (ρ:=idn) h⟩
end
def CleanL (n:Nat):List Value→Prop
  | []=>True
  | v::l=>Clean n v∧CleanL n l
@[simp] theorem CleanL_nil {n:Nat}:CleanL n []=True:=rfl
@[simp] theorem CleanL_cons {n:Nat} {v:Value} {l:List Value}:CleanL n (v::l)=(Clean n v∧CleanL n l):=rfl
theorem CleanL.fa {n:Nat} {l:List Value} (h:CleanL n l):FA2 (RV (fun _=>False) idn n) l l:=by
  induction l with
  | nil=>exact .nil
  | cons a l ih=>exact .cons h.1 (ih h.2)
theorem CleanL_all {n:Nat} {l:List Value} (h:∀ v ∈ l,Clean n v):CleanL n l:=by
  induction l with
  | nil=>trivial
  | cons a l ih=>exact ⟨h a (by simp),ih fun v hv=>h v (by simp [hv])⟩
theorem CleanL.app {n:Nat} {l m:List Value} (h:CleanL n l) (k:CleanL n m):CleanL n (l++m):=by
  induction l with
  | nil=>exact k
  | cons a l ih=>exact ⟨h.1,ih h.2⟩
def CleanB (n:Nat):ABlk→Prop
  | .cells c _ _=>CleanL n c
  | .map es _=>∀ e ∈ es,Clean n e.1∧Clean n e.2.1
  | .dead=>True
@[simp] theorem CleanB_cells {n:Nat} {c:List Value} {g ro:Bool}:CleanB n (.cells c g ro)=CleanL n c:=rfl
@[simp] theorem CleanB_dead {n:Nat}:CleanB n .dead=True:=rfl
theorem CleanB.rb {K:Value→Prop} {n n':Nat} {ρ:Nat→Nat} {o:ABlk} (h:CleanB n o) (hn:n≤n') (hρ:∀ b,b < n→ρ b=b):RB K ρ n' o o:=by
  cases o with
  | cells c g ro=>exact ⟨rfl,RV.moreL (fun _ h=>h.elim) hn hρ (CleanL.fa h)⟩
  | map es k =>
    refine ⟨rfl,?_⟩
    induction es with
    | nil=>exact .nil
    | cons a l ih=>exact .cons ⟨RV.more (fun _ h=>h.elim) hn hρ (h a (by simp)).1,RV.more (fun _ h=>h.elim) hn hρ (h a (by simp)).2,rfl⟩ (ih fun e he=>h e (by simp [he]))
  | dead=>trivial
theorem View.drop {K:Value→Prop} {h h1:AH} (x:Ext h h1):View K idn h h1 h:=⟨Nat.le_refl _,fun _ _=>rfl,fun _ _ _ _ e=>e,fun b hb=>.inl ⟨hb,rfl,x.get b hb⟩⟩
theorem WC_gc {f:Nat} {args:List Value} {h:AH} {R:Value→AH→Prop} (H:WC G f args h fun v h1=>∃ ρ v' h2,View (ofArgs args) ρ h h1 h2∧RV (ofArgs args) ρ h2.next v' v∧R v' h2):WC G f args h R:=by
  obtain ⟨v,h1,r,ρ,v',h2,V,q,k⟩:=H
  exact ⟨v',h2,.gcC r V q,k⟩
theorem WC_pure {f:Nat} {args:List Value} {h:AH} {R:Value→AH→Prop} (H:WC G f args h fun v h1=>Ext h h1∧Clean h.next v∧R v h):WC G f args h R:=by
  refine WC_gc ?_
  obtain ⟨v,h1,r,x,c,k⟩:=H
  exact ⟨v,h1,r,idn,v,h,.drop x,RV.more (fun _ h=>h.elim) (Nat.le_refl _) (fun _ _=>rfl) c,k⟩
theorem WC_is {f:Nat} {args:List Value} {h:AH} {R:Value→AH→Prop} {v:Value} (c:Clean h.next v) (k:R v h) (H:∀ R':Value→AH→Prop,(∀ h1,Ext h h1→R' v h1)→WC G f args h R'):WC G f args h R :=
  WC_pure (H _ fun _ x=>⟨x,c,k⟩)
theorem View.new {K:Value→Prop} {h h1:AH} {b:Nat} {o:ABlk} (x:Ext h h1) (hb:h.next≤b) (hg:o=.dead ∨ h1.get b=o) (c:CleanB h.next o):View K (fun i=>if i=h.next then b else i) h h1 (h.lays [o]):=by
  refine ⟨by simp,fun i hi=>by simp;omega,fun i j hi hj e=>?_,fun i hi=>?_⟩
  · simp at hi hj e;split at e <;> split at e <;> omega
  · simp at hi
    by_cases e:i=h.next
    · subst e
      right
      simp only [AH.lays_get0,if_true,List.getElem?_cons_zero,Option.getD_some,AH.lays_next,List.length_cons,List.length_nil,Nat.zero_add]
      rcases hg with rfl | hg
      · trivial
      · rw [hg]
        exact c.rb (by omega) fun i hi=>by simp;omega
    · left
      have:i < h.next:=by omega
      exact ⟨this,AH.lays_lt this,x.get i this⟩
theorem WC_row {f k:Nat} {args:List Value} {h:AH} {R:Value→AH→Prop} (H:WC G f args h fun v h1=>∃ n cs,Ext h h1∧SlG k h1 h.next n cs v∧CleanL h.next cs∧∀ v' o,SlG k (h.lays [o]) h.next n cs v'→CleanB h.next o→R v' (h.lays [o])):WC G f args h R:=by
  obtain ⟨v,h1,r,n,cs,x,s,c,q⟩:=H
  obtain ⟨s1,s2⟩:=s
  rcases s2 with ⟨rfl,rfl⟩ | ⟨b,b1,b2,b3,rfl⟩
  · exact ⟨_,_,.gcC r (View.new (b:=h.next) (o:=.dead) x (Nat.le_refl _) (.inl rfl) (by simp)) .sl0,q _ .dead ⟨s1,.inl ⟨rfl,rfl⟩⟩ (by simp)⟩
  · have rv:RV (ofArgs args) (fun i=>if i=h.next then b else i) (h.lays [ABlk.cells cs true false]).next (.slice (some ⟨h.next,0,some k⟩) n n) (.slice (some ⟨b,0,some k⟩) n n):=by
      have:=RV.sl (K:=ofArgs args) (ρ:=fun i=>if i=h.next then b else i) (n:=(h.lays [ABlk.cells cs true false]).next) (b:=h.next) (o:=0) (l:=n) (c:=n) (sp:=some k) (by simp)
      rwa [if_pos rfl] at this
    exact ⟨_,_,.gcC r (View.new (b:=b) (o:=.cells cs true false) x b1 (.inr b3) c) rv,q _ (.cells cs true false) ⟨s1,.inr ⟨h.next,Nat.le_refl _,by simp,by simp,rfl⟩⟩ c⟩
theorem SlG.one {h:AH} {o:ABlk} {k n:Nat} {cs:List Value} {v:Value} (s:SlG k (h.lays [o]) h.next n cs v) (hn:0 < n):o=.cells cs true false∧v=.slice (some ⟨h.next,0,some k⟩) n n:=by
  rcases s.2 with ⟨rfl,_⟩ | ⟨b,b1,b2,b3,rfl⟩
  · omega
  · have:b=h.next:=by simp at b2;omega
    subst this
    simp at b3
    exact ⟨b3,rfl⟩
theorem fm_row {α:Type} {f:α→List Value} {k:Nat} (hf:∀ x,(f x).length=k) {l:List α} {i:Nat} (hi:i < l.length):((l.flatMap f).drop (i * k)).take k=f l[i]:=by
  have:=fm_take_drop hf l i 1
  rw [Nat.one_mul] at this
  rw [this,List.drop_eq_getElem_cons hi,List.take_succ_cons,List.take_zero,List.flatMap_cons,List.flatMap_nil,List.append_nil]
theorem fm_le {α:Type} {f:α→List Value} {k:Nat} (hf:∀ x,(f x).length=k) {l:List α} {i:Nat} (hi:i < l.length):i * k+k≤(l.flatMap f).length:=by
  rw [fm_length hf]
  have:=Nat.mul_le_mul_right k hi
  rw [Nat.succ_mul] at this
  exact this
def FrOk (F0:Fr) (n:Nat):Fr→Prop
  | []=>True
  | (t,v)::r=>(F0.get t=some v ∨ Clean n v)∧FrOk F0 n r
@[simp] theorem FrOk_nil {F0:Fr} {n:Nat}:FrOk F0 n []=True:=rfl
@[simp] theorem FrOk_cons {F0 F:Fr} {n t:Nat} {v:Value}:FrOk F0 n ((t,v)::F)=((F0.get t=some v ∨ Clean n v)∧FrOk F0 n F):=rfl
theorem FrOk.get {F0 F:Fr} {n:Nat} (h:FrOk F0 n F) {t:Nat} {v:Value} (e:F.get t=some v):RV (ofFr F0) idn n v v:=by
  induction F with
  | nil=>simp [Fr.get] at e
  | cons a r ih =>
    obtain ⟨k,x⟩:=a
    simp only [Fr.get] at e
    split at e
    · simp only [Option.some.injEq] at e
      subst e
      rcases h.1 with q | q
      · exact .keep ⟨_,_,q,.inl rfl⟩
      · exact RV.more (fun _ h=>h.elim) (Nat.le_refl _) (fun _ _=>rfl) q
    · exact ih h.2 e
def LaOk (n:Nat):List ABlk→List ABlk→Prop
  | [],[]=>True
  | [],o::l=>CleanB n o∧LaOk n [] l
  | o0::l0,o::l=>(o=o0 ∨ CleanB n o)∧LaOk n l0 l
  | _::_,[]=>False
@[simp] theorem LaOk_nil {n:Nat}:LaOk n [] []=True:=rfl
@[simp] theorem LaOk_nc {n:Nat} {o:ABlk} {l:List ABlk}:LaOk n [] (o::l)=(CleanB n o∧LaOk n [] l):=rfl
@[simp] theorem LaOk_cc {n:Nat} {o o0:ABlk} {l l0:List ABlk}:LaOk n (o0::l0) (o::l)=((o=o0 ∨ CleanB n o)∧LaOk n l0 l):=rfl
theorem LaOk.get {n:Nat}:∀ {l0 l:List ABlk},LaOk n l0 l→l0.length≤l.length∧∀ i (h:i < l.length),(i < l0.length∧l0[i]?=some l[i]) ∨ CleanB n l[i]
  | [],[],_=>⟨Nat.le_refl _,fun i h=>by simp at h⟩
  | [],o::l,h=>⟨by simp,fun i hi=>by
      cases i with
      | zero=>exact .inr h.1
      | succ i =>
        rcases (LaOk.get h.2).2 i (by simpa using hi) with q | q
        · simp at q
        · exact .inr q⟩
  | o0::l0,o::l,h=>⟨by simpa using (LaOk.get h.2).1,fun i hi=>by
      cases i with
      | zero =>
        rcases h.1 with q | q
        · exact .inl (by simp [q])
        · exact .inr q
      | succ i =>
        rcases (LaOk.get h.2).2 i (by simpa using hi) with q | q
        · exact .inl (by simpa using q)
        · exact .inr q⟩
  | _::_,[],h=>h.elim
def gcN (F0:Fr) (h0:AH) (R:Fr→AH→Prop) (F1:Fr) (h1:AH):Prop :=
  R F1 h1 ∨ ∃ ρ F2 h2,View (ofFr F0) ρ h0 h1 h2∧(∀ t v,F2.get t=some v→∃ u,F1.get t=some u∧RV (ofFr F0) ρ h2.next v u)∧R F2 h2
def gcK (F0:Fr) (h0:AH) (R:SExit→Fr→AH→Prop):SExit→Fr→AH→Prop
  | .normal,F1,h1=>gcN F0 h0 (R .normal) F1 h1
  | .exit id,F1,h1=>R (.exit id) F1 h1
  | .ret,F1,h1=>R .ret F1 h1
@[simp] theorem gcK_e {F0 F1:Fr} {h0 h1:AH} {R:SExit→Fr→AH→Prop} {id:Nat}:gcK F0 h0 R (.exit id) F1 h1=R (.exit id) F1 h1:=rfl
@[simp] theorem gcK_r {F0 F1:Fr} {h0 h1:AH} {R:SExit→Fr→AH→Prop}:gcK F0 h0 R .ret F1 h1=R .ret F1 h1:=rfl
theorem gcK_lays {F0 F1:Fr} {h:AH} {L0 L1:List ABlk} {R:SExit→Fr→AH→Prop} (k:Nat) (hk:k≤L1.length) (hL:LaOk (h.next+k) L0 (L1.take k)) (hF:FrOk F0 (h.next+k) F1) (H:R .normal F1 (h.lays (L1.take k))) :
    gcK F0 (h.lays L0) R .normal F1 (h.lays L1):=by
  have lk:(L1.take k).length=k:=by simp;omega
  obtain ⟨q1,q2⟩:=hL.get
  rw [lk] at q1
  have hn:(h.lays (L1.take k)).next=h.next+k:=by simp;omega
  refine .inr ⟨idn,F1,h.lays (L1.take k),⟨by rw [hn];simp;omega,fun _ _=>rfl,fun _ _ _ _ e=>e,fun b hb=>?_⟩,fun t v e=>⟨v,e,by rw [hn];exact hF.get e⟩,H⟩
  rw [hn] at hb ⊢
  by_cases h1:b < h.next
  · exact .inl ⟨by simp;omega,by rw [AH.lays_lt h1,AH.lays_lt h1],by rw [AH.lays_lt h1,AH.lays_lt h1]⟩
  · obtain ⟨i,rfl⟩:∃ i,b=h.next+i:=⟨b - h.next,by omega⟩
    have hi:i < (L1.take k).length:=by rw [lk];omega
    have hi':i < L1.length:=by omega
    have e1:(L1.take k)[i]?=some L1[i]:=by rw [List.getElem?_take,if_pos (by omega),List.getElem?_eq_getElem hi']
    have e2:(L1.take k)[i]=L1[i]:=by simp
    simp only [AH.lays_get,e1,Option.getD_some,List.getElem?_eq_getElem hi']
    rcases q2 i hi with ⟨c1,c2⟩ | c
    · left
      rw [e2] at c2
      exact ⟨by simp;omega,by rw [c2];rfl,by rw [c2];rfl⟩
    · right
      rw [e2] at c
      exact c.rb (Nat.le_refl _) fun _ _=>rfl
theorem gcK_lays0 {F0 F1:Fr} {h:AH} {L1:List ABlk} {R:SExit→Fr→AH→Prop} (H:FrOk F0 h.next F1∧R .normal F1 h):gcK F0 h R .normal F1 (h.lays L1):=by
  have:=gcK_lays (F0:=F0) (F1:=F1) (h:=h) (L0:=[]) (L1:=L1) (R:=R) 0 (by omega) (by simp) (by simpa using H.1) (by simpa using H.2)
  simpa using this
theorem W_loopg {live:List Nat} {a:SCode} {F:Fr} {h:AH} {R:SExit→Fr→AH→Prop} (I:Nat→Fr→AH→Prop) (n:Nat) (H0:I n F h)
    (Hs:∀ n F h,I n F h→W G a (F.keep live) h (gcK (F.keep live) h (loopK (fun F1 h1=>∃ m,m < n∧I m F1 h1) R))):W G (.loop live a) F h R:=by
  induction n using Nat.strongRecOn generalizing F h with
  | _ n ih =>
    obtain ⟨e,F1,h1,r,k⟩:=W_run (Hs n F h H0)
    have key:∃ F2 h2,Run G (.code a (F.keep live) h) (.code e F2 h2)∧loopK (fun F1 h1=>∃ m,m < n∧I m F1 h1) R e F2 h2:=by
      cases e with
      | normal =>
        rcases k with k | ⟨ρ,F2,h2,V,hv,k⟩
        · exact ⟨F1,h1,r,k⟩
        · exact ⟨F2,h2,Run.gcB r V hv,k⟩
      | exit id=>exact ⟨F1,h1,r,k⟩
      | ret=>exact ⟨F1,h1,r,k⟩
    obtain ⟨F2,h2,r2,k⟩:=key
    cases e with
    | normal =>
      obtain ⟨m,hm,k⟩:=k
      obtain ⟨e2,F3,h3,r3,k2⟩:=ih m hm k
      exact ⟨_,_,_,.loopN r2 r3,k2⟩
    | exit id=>exact ⟨_,_,_,.loopE r2 (by simp),k⟩
    | ret=>exact ⟨_,_,_,.loopE r2 (by simp),k⟩
end Go.Jq
namespace Go.Jq
variable {G:Nat→SFunc} {h:AH} {R:Value→AH→Prop}
theorem Clean_ints {n:Nat} {l:List Value} (h:∀ v ∈ l,∃ k i,v=.int k i):CleanL n l:=CleanL_all fun v hv=>by obtain ⟨k,i,rfl⟩:=h v hv;exact .int
theorem relC_int {n:Nat} {r:Nat→Nat}:∀ x ∈ relC n r,∃ k i,x=.int k i:=by
  intro x hx
  unfold relC at hx
  rcases List.mem_cons.1 hx with rfl | hx
  · exact ⟨_,_,rfl⟩
  · unfold rowC at hx
    rw [List.mem_map] at hx
    obtain ⟨i,_,rfl⟩:=hx
    exact ⟨_,_,rfl⟩
@[simp] theorem CleanL_rel {m n:Nat} {r:Nat→Nat}:CleanL m (relC n r)=True:=eq_true (Clean_ints relC_int)
@[simp] theorem Clean_rel {m n:Nat} {r:Nat→Nat}:Clean m (relV n r)=True:=eq_true (.agg (by simpa using CleanL.fa (Clean_ints relC_int)))
theorem New_r (g:RelG G) {a:Int} (k:R (relV (newN a) fun _=>0) h):WC G 38 [.int .i64 a] h R:=WC_is (by simp) k fun _=>New_rel g
theorem N_r (g:RelG G) {n:Nat} {r:Nat→Nat} (k:R (.int .i64 n) h):WC G 137 [relV n r] h R:=WC_is (by simp) k fun _=>N_rel g
theorem in_r (g:RelG G) {n:Nat} {r:Nat→Nat} {a:Int} (k:R (.bool (inB n a)) h):WC G 98 [relV n r,.int .i64 a] h R:=WC_is (by simp) k fun _=>in_rel g
theorem Has_r (g:RelG G) {n:Nat} {r:Nat→Nat} {a b:Int} (hn:n≤64) (hr:RowsOk r) (k:R (.bool (relB n r a b)) h):WC G 139 [relV n r,.int .i64 a,.int .i64 b] h R:=WC_is (by simp) k fun _=>Has_rel g hn hr
theorem Add_r (g:RelG G) {n:Nat} {r:Nat→Nat} {a b:Int} (hn:n≤64) (hr:RowsOk r) (k:R (relV n (addR n r a b)) h):WC G 56 [relV n r,.int .i64 a,.int .i64 b] h R:=WC_is (by simp) k fun _=>Add_rel g hn hr
theorem Acyclic_r (g:RelG G) (g30:G 30=c30) {n:Nat} {r:Nat→Nat} (hn:n≤64) (hr:RowsOk r) (k:R (.bool (acyM n r)) h):WC G 30 [relV n r] h R:=WC_is (by simp) k fun _=>Acyclic_rel g g30 hn hr
structure RelG2 (G:Nat→SFunc):Prop extends RelG G,PairG G where
  g53:G 53=c53
  g132:G 132=c132
  g64:G 64=c64
  g133:G 133=c133
  g134:G 134=c134
  g74:G 74=c74
  g186:G 186=c186
  g184:G 184=c184
def rowN (n:Nat) (r:Nat→Nat) (a:Int):Nat:=if inB n a then r a.toNat else 0
theorem Row_r (g:RelG2 G) {n:Nat} {r:Nat→Nat} {a:Int} (hn:n≤64) (hr:RowsOk r) (k:R (stW (rowN n r a)) h):WC G 53 [relV n r,.int .i64 a] h R:=by
  refine WC_pure (WC_enter g.g53 rfl ?_)
  simp -implicitDefEqProofs [c53,c53_body,c53_0,c53_1,relV,relC_take]
  refine in_r g.toRelG ?_
  cases e:inB n a with
  | false =>
    simp -implicitDefEqProofs [c53_2,Ext.lays]
    simpa [rowN,e,stW] using k
  | true =>
    obtain ⟨i,rfl,hi⟩:=inB_nat e
    simp -implicitDefEqProofs [c53_3,show (i:Int) < 64 by omega,relC_get (show i < 64 by omega),Ext.lays]
    simpa [rowN,e,stW] using k
def keepR (n:Nat) (r:Nat→Nat) (s:Nat):Nat→Nat:=fun i=>if i < n∧s.testBit i=true then r i &&& s else 0
def inv132 (h:AH) (n:Nat) (r:Nat→Nat) (s:Nat) (mm:Nat) (F:Fr) (hh:AH):Prop :=
  ∃ j:Nat,mm=n - j∧j≤n∧F=[(1,stW s),(2,.pointer (some ⟨h.next,0,none⟩)),(4,.pointer (some ⟨h.next+1,0,none⟩)),(5,.pointer (some ⟨h.next+2,0,none⟩)),(11,.int .i64 n),(12,.int .i64 j)] ∧
    hh=h.lays [.cells (relC n r) false false,.cells zrel false false,.cells (relC n (keepR j r s)) false false]
theorem keepR_step {n j s:Nat} {r:Nat→Nat}:(s.testBit j=true→updR (keepR j r s) j (r j &&& s)=keepR (j+1) r s)∧(s.testBit j=false→keepR j r s=keepR (j+1) r s):=by
  constructor
  · intro e;funext i;unfold updR keepR
    by_cases h:i=j
    · subst h;simp [e]
    · rw [if_neg h];by_cases h1:i < j
      · simp [h1,show i < j+1 by omega]
      · simp [h1,show ¬ i < j+1 by omega]
  · intro e;funext i;unfold keepR
    by_cases h:i=j
    · subst h;simp [e]
    · by_cases h1:i < j
      · simp [h1,show i < j+1 by omega]
      · simp [h1,show ¬ i < j+1 by omega]
theorem hasB_nat {s i:Nat} (h:i < 64):hasB s (i:Int)=s.testBit i:=by simp [hasB];omega
theorem Keep_r (g:RelG2 G) {n s:Nat} {r:Nat→Nat} (hn:n≤64) (hr:RowsOk r) (hs:s < 2 ^ 64) (k:R (relV n (keepR n r s)) h):WC G 132 [relV n r,stW s] h R:=by
  refine WC_pure (WC_enter g.g132 rfl ?_)
  simp -implicitDefEqProofs [c132,c132_body,c132_0,c132_1,relV,relC_take]
  refine New_r g.toRelG ?_
  simp -implicitDefEqProofs [c132_2,relV,relC_take,newN_of hn,zrel_splice,zrel_length]
  refine W_loop (inv132 h n r s) n ⟨0, rfl, by omega, rfl, by have : keepR 0 r s = fun _ => 0 := by { funext i; simp [keepR] }
                                                              rw [this]⟩ ?_
  rintro mm F hh ⟨j,rfl,hj,rfl,rfl⟩
  simp -implicitDefEqProofs [c132_8,c132_3]
  by_cases h1:j < n
  · have w1:IntKind.i64.wrap ((j:Int)+1)=((j+1:Nat):Int):=by rw [wrap64 (by omega)];rfl
    have j64:j < 64:=by omega
    simp -implicitDefEqProofs [h1,c132_4,c132_5]
    refine Has_spec g.toSetG hs ?_
    rw [hasB_nat j64]
    cases e:s.testBit j with
    | true =>
      have:=(keepR_step (n:=n) (r:=r)).1 e
      simp -implicitDefEqProofs [c132_6,c132_7,w1,show (j:Int) < 64 by omega,relC_get j64,iand_nat (hr _) hs,relC_set,this]
      exact ⟨by omega,n - (j+1),by omega,j+1,rfl,by omega,by simp,rfl⟩
    | false =>
      have:=(keepR_step (n:=n) (r:=r)).2 e
      simp -implicitDefEqProofs [c132_7,w1,this]
      exact ⟨n - (j+1),by omega,j+1,rfl,by omega,by simp,rfl⟩
  · have e:j=n:=by omega
    subst e
    simp -implicitDefEqProofs [c132_9,relC_take,zrel_splice,zrel_length,Ext.lays]
    exact ⟨by simpa [relV] using Clean_rel (m:=h.next) (n:=j) (r:=keepR j r s),k⟩
def uptoN (a:Int):Nat:=2 ^ newN a - 1
theorem uptoN_lt {a:Int}:uptoN a < 2 ^ 64:=by
  have:=Nat.pow_le_pow_right (n:=2) (by omega) (newN_le (a:=a))
  unfold uptoN;omega
theorem Upto_s (g:RelG2 G) {a:Int} (k:R (stW (uptoN a)) h):WC G 184 [.int .i64 a] h R:=by
  refine WC_enter g.g184 rfl ?_
  have e:(if 64 < (if a < 0 then (0:Int) else a) then (64:Int) else (if a < 0 then (0:Int) else a))=(newN a:Int):=by
    unfold newN;split <;> split <;> (try split) <;> (try split) <;> omega
  have e':smm true (.int .i64 a) [.int .i64 0]=some (.int .i64 (if a < 0 then 0 else a)):=by simp [smm]
  have e2:∀ b:Int,smm false (.int .i64 b) [.int .i64 64]=some (.int .i64 (if b > 64 then 64 else b)):=fun b=>by simp [smm]
  simp -implicitDefEqProofs [c184,c184_body,c184_0,c184_1,e',e2,e,c184_2]
  have le:=newN_le (a:=a)
  unfold uptoN at k
  generalize newN a=n at k le
  by_cases h1:n=64
  · subst h1
    simp -implicitDefEqProofs [c184_3]
    simpa [stW] using k
  · have h2:¬ (n:Int)=64:=by omega
    have e1:IntKind.u64.wrap (n:Int)=n:=wrapu (by omega)
    have e3:min n IntKind.u64.bits=n:=by
      have:IntKind.u64.bits=64:=rfl
      rw [this];omega
    have hp:(2:Nat) ^ n < 2 ^ 64:=Nat.pow_lt_pow_right (by omega) (by omega)
    have hp0:0 < (2:Nat) ^ n:=Nat.pow_pos (by omega)
    have e4:IntKind.u64.wrap ((1:Int) * 2 ^ n)=((2 ^ n:Nat):Int):=by
      rw [Int.one_mul]
      have:(2:Int) ^ n=((2 ^ n:Nat):Int):=by simp
      rw [this]
      exact wrapu ⟨by omega,by omega⟩
    have e5:IntKind.u64.wrap (((2 ^ n:Nat):Int) - 1)=((2 ^ n - 1:Nat):Int):=by rw [wrapu (by omega)];omega
    simp -implicitDefEqProofs [h1,h2,c184_4,e1,sbin,e3]
    rw [Int.one_mul] at e4
    rw [e4,e5]
    exact k
def bothR (n:Nat) (f:Nat→Nat→Nat) (r q:Nat→Nat):Nat→Nat:=fun i=>if i < n then f (r i) (q i) &&& uptoN n else 0
theorem bothR_step {j:Nat} {f:Nat→Nat→Nat} {n:Nat} {r q:Nat→Nat}:updR (fun i=>if i < j then f (r i) (q i) &&& uptoN n else 0) j (f (r j) (q j) &&& uptoN n)=fun i=>if i < j+1 then f (r i) (q i) &&& uptoN n else 0:=by
  funext i;unfold updR
  by_cases h:i=j
  · subst h;simp
  · rw [if_neg h];by_cases h1:i < j
    · simp [h1,show i < j+1 by omega]
    · simp [h1,show ¬ i < j+1 by omega]
theorem relC_splice1 {n i v:Nat} {r:Nat→Nat} (h:i < 64):splice (relC n r) (1+i) [stW v]=relC n (updR r i v):=by rw [splice_one (by simp;omega),relC_set]
def inv133 (h:AH) (fv:Value) (m1 m2 n:Nat) (f:Nat→Nat→Nat) (r q:Nat→Nat) (mm:Nat) (F:Fr) (hh:AH):Prop :=
  ∃ j:Nat,mm=n - j∧j≤n∧F=[(2,fv),(3,.pointer (some ⟨h.next,0,none⟩)),(4,.pointer (some ⟨h.next+1,0,none⟩)),(6,.pointer (some ⟨h.next+2,0,none⟩)),(7,.pointer (some ⟨h.next+3,0,none⟩)),(16,.int .i64 n),(17,.int .i64 j)] ∧
    hh=h.lays [.cells (relC m1 r) false false,.cells (relC m2 q) false false,.cells zrel false false,.cells (relC n fun i=>if i < j then f (r i) (q i) &&& uptoN n else 0) false false]
theorem both_r (g:RelG2 G) {n m:Nat} {r q:Nat→Nat} {f:Nat→Nat→Nat} {fn:Nat} (hn:n≤64) (hm:m≤64) (hr:RowsOk r) (hq:RowsOk q) (ff:∀ a b,a < 2 ^ 64→b < 2 ^ 64→f a b < 2 ^ 64)
    (hf:∀ a b (h:AH) (R:Value→AH→Prop),a < 2 ^ 64→b < 2 ^ 64→R (stW (f a b)) h→WC G fn [stW a,stW b] h R) (k:R (relV (min n m) (bothR (min n m) f r q)) h):WC G 133 [relV n r,relV m q,.func (.func fn) #[] #[]] h R:=by
  refine WC_pure (WC_enter g.g133 rfl ?_)
  obtain ⟨p,hp⟩:∃ p,p=min n m:=⟨_,rfl⟩
  rw [← hp] at k
  have e2:(if m < n then (m:Int) else n)=(p:Int):=by split <;> omega
  have e4:newN (p:Nat)=p:=newN_of (by omega)
  simp -implicitDefEqProofs [c133,c133_body,c133_0,c133_1,relV,relC_take,e2]
  refine New_r g.toRelG ?_
  rw [e4]
  simp -implicitDefEqProofs [c133_2,relV,relC_take,zrel_splice,zrel_length]
  refine W_loop (inv133 h (.func (.func fn) #[] #[]) n m p f r q) p ⟨0,rfl,by omega,by simp,by simp⟩ ?_
  rintro mm F hh ⟨j,rfl,hj,rfl,rfl⟩
  simp -implicitDefEqProofs [c133_7,c133_3]
  by_cases h1:j < p
  · have w1:IntKind.i64.wrap ((j:Int)+1)=((j+1:Nat):Int):=by rw [wrap64 (by omega)];rfl
    have j64:j < 64:=by omega
    have j64':(j:Int) < 64:=by omega
    simp -implicitDefEqProofs [h1,c133_4,c133_5,c133_5b,j64',relC_get j64]
    refine hf _ _ _ _ (hr _) (hq _) ?_
    simp -implicitDefEqProofs [j64',relC_get j64]
    refine Upto_s g ?_
    simp -implicitDefEqProofs [c133_6,w1,j64',relC_get j64,iand_nat (ff _ _ (hr j) (hq j)) uptoN_lt]
    refine ⟨by omega,p - (j+1),by omega,j+1,rfl,by omega,by simp,?_⟩
    rw [if_pos (by omega),relC_splice1 j64,bothR_step]
  · have e:j=p:=by omega
    subst e
    simp -implicitDefEqProofs [c133_8,relC_take,zrel_splice,zrel_length,Ext.lays]
    exact ⟨by simpa [relV] using Clean_rel (m:=h.next),k⟩
def uniR (n:Nat) (r q:Nat→Nat):Nat→Nat:=bothR n (fun a b=>a ||| b) r q
theorem Union1_s (g:RelG2 G) {a b:Nat} (ha:a < 2 ^ 64) (hb:b < 2 ^ 64) (k:R (stW (a ||| b)) h):WC G 134 [stW a,stW b] h R:=by
  refine WC_enter g.g134 rfl ?_
  simp -implicitDefEqProofs [c134,c134_body,c134_0,c134_1,ior_nat ha hb]
  exact k
theorem Union_r (g:RelG2 G) {n m:Nat} {r q:Nat→Nat} (hn:n≤64) (hm:m≤64) (hr:RowsOk r) (hq:RowsOk q) (k:R (relV (min n m) (uniR (min n m) r q)) h):WC G 74 [relV n r,relV m q] h R:=by
  refine WC_pure (WC_enter g.g74 rfl ?_)
  simp -implicitDefEqProofs [c74,c74_body,c74_0,c74_1,relV,relC_take]
  refine both_r g hn hm hr hq (fun _ _=>Nat.or_lt_two_pow) (fun _ _ _ _=>Union1_s g) ?_
  simp -implicitDefEqProofs [relV,relC_take,zrel_splice,zrel_length,Ext.lays]
  exact ⟨by simpa [relV] using Clean_rel (m:=h.next),k⟩
def thenW (n:Nat) (q:Nat→Nat) (a k:Nat):Nat:=a ||| (q k &&& uptoN n)
def thenRow (n:Nat) (r q:Nat→Nat) (i:Nat):Nat:=(setL (r i &&& uptoN n)).foldl (thenW n q) 0
def thenR (n:Nat) (r q:Nat→Nat):Nat→Nat:=fun i=>if i < n then thenRow n r q i else 0
theorem thenW_lt {n k a:Nat} {q:Nat→Nat} (h:a < 2 ^ 64):thenW n q a k < 2 ^ 64:=Nat.or_lt_two_pow h (Nat.lt_of_le_of_lt Nat.and_le_right uptoN_lt)
def inv186 (h:AH) (m1 m2 n:Nat) (r q:Nat→Nat) (mm:Nat) (F:Fr) (hh:AH):Prop :=
  ∃ j:Nat,mm=n - j∧j≤n∧F=[(2,.pointer (some ⟨h.next,0,none⟩)),(3,.pointer (some ⟨h.next+1,0,none⟩)),(4,.pointer (some ⟨h.next+2,0,none⟩)),(5,.pointer (some ⟨h.next+3,0,none⟩)),(6,stW (uptoN n)),(19,.int .i64 n),(20,.int .i64 j)] ∧
    hh=h.lays [.cells (relC m1 r) false false,.cells (relC m2 q) false false,.cells zrel false false,.cells (relC n fun i=>if i < j then thenRow n r q i else 0) false false]
def inv186b (h:AH) (m1 m2 n:Nat) (r q:Nat→Nat) (j T:Nat) (mm:Nat) (F:Fr) (hh:AH):Prop :=
  ∃ (s a:Nat),mm=(setL s).length∧s < 2 ^ 64∧a < 2 ^ 64∧(setL s).foldl (thenW n q) a=T∧F=[(2,.pointer (some ⟨h.next,0,none⟩)),(3,.pointer (some ⟨h.next+1,0,none⟩)),(4,.pointer (some ⟨h.next+2,0,none⟩)),(5,.pointer (some ⟨h.next+3,0,none⟩)),(6,stW (uptoN n)),(7,.int .i64 j),(8,stW s),(19,.int .i64 n),(20,.int .i64 j)] ∧
    hh=h.lays [.cells (relC m1 r) false false,.cells (relC m2 q) false false,.cells zrel false false,.cells (relC n (updR (fun i=>if i < j then thenRow n r q i else 0) j a)) false false]
theorem upd_upd {f:Nat→Nat} {j a b:Nat}:updR (updR f j a) j b=updR f j b:=by
  funext i;unfold updR;split <;> rfl
theorem Then_r (g:RelG2 G) {n m:Nat} {r q:Nat→Nat} (hn:n≤64) (hm:m≤64) (hr:RowsOk r) (hq:RowsOk q) (k:R (relV (min n m) (thenR (min n m) r q)) h):WC G 186 [relV n r,relV m q] h R:=by
  refine WC_pure (WC_enter g.g186 rfl ?_)
  obtain ⟨p,hp⟩:∃ p,p=min n m:=⟨_,rfl⟩
  rw [← hp] at k
  have e2:(if m < n then (m:Int) else n)=(p:Int):=by split <;> omega
  have e4:newN (p:Nat)=p:=newN_of (by omega)
  simp -implicitDefEqProofs [c186,c186_body,c186_0,c186_1,relV,relC_take,e2]
  refine New_r g.toRelG ?_
  rw [e4]
  simp -implicitDefEqProofs [c186_2,relV,relC_take,zrel_splice,zrel_length]
  refine Upto_s g ?_
  simp -implicitDefEqProofs [c186_3]
  refine W_loop (inv186 h n m p r q) p ⟨0,rfl,by omega,by simp,by simp⟩ ?_
  rintro mm F hh ⟨j,rfl,hj,rfl,rfl⟩
  simp -implicitDefEqProofs [c186_12,c186_4]
  by_cases h1:j < p
  · have w1:IntKind.i64.wrap ((j:Int)+1)=((j+1:Nat):Int):=by rw [wrap64 (by omega)];rfl
    have j64:j < 64:=by omega
    have j64':(j:Int) < 64:=by omega
    simp -implicitDefEqProofs [h1,c186_5,c186_6,j64',relC_get j64,iand_nat (hr j) uptoN_lt]
    have e0:updR (fun i=>if i < j then thenRow p r q i else 0) j 0=fun i=>if i < j then thenRow p r q i else 0:=by
      funext i;unfold updR;split
      · rename_i e;subst e;simp
      · rfl
    refine W_loop (inv186b h n m p r q j (thenRow p r q j)) (setL (r j &&& uptoN p)).length ⟨r j &&& uptoN p,0,rfl,Nat.lt_of_le_of_lt Nat.and_le_left (hr _),by decide,rfl,rfl,by rw [e0]⟩ ?_
    rintro mm F hh ⟨s,a,rfl,hs,ha,hT,rfl,rfl⟩
    simp -implicitDefEqProofs [c186_10,c186_7]
    by_cases h0:s=0
    · subst h0
      rw [setL_zero] at hT
      simp only [List.foldl_nil] at hT
      subst hT
      simp -implicitDefEqProofs [c186_11,w1]
      refine ⟨p - (j+1),by omega,j+1,rfl,by omega,by simp,?_⟩
      have:∀ f g:Nat→Nat,f=g→h.lays [.cells (relC n r) false false,.cells (relC m q) false false,.cells zrel false false,.cells (relC p f) false false]=h.lays [.cells (relC n r) false false,.cells (relC m q) false false,.cells zrel false false,.cells (relC p g) false false]:=fun _ _ e=>by rw [e]
      refine this _ _ ?_
      funext i;unfold updR
      by_cases hi:i=j
      · subst hi;simp
      · rw [if_neg hi];by_cases h1:i < j
        · simp [h1,show i < j+1 by omega]
        · simp [h1,show ¬ i < j+1 by omega]
    · have hw:IntKind.u64.wrap ((s:Int) - 1)=((s - 1:Nat):Int):=by rw [wrapu (by omega)];omega
      have hs1:s - 1 < 2 ^ 64:=by omega
      have lb:=(low_bit h0 hs).1
      have hL:=setL_succ h0 hs
      have e:=iand_nat hs hs1
      have hw2:q (Lib.ctz 64 s) &&& uptoN p < 2 ^ 64:=Nat.lt_of_le_of_lt Nat.and_le_right uptoN_lt
      have ej:∀ x,updR (fun i=>if i < j then thenRow p r q i else 0) j x j=x:=fun x=>by simp [updR]
      simp -implicitDefEqProofs [h0,c186_8,c186_8b,j64',relC_get j64]
      refine First_spec g.toListG hs ?_
      simp -implicitDefEqProofs [firstI,h0,j64',show (Lib.ctz 64 s:Int) < 64 by omega,relC_get lb,relC_get j64,ej,iand_nat (hq _) uptoN_lt,ior_nat ha hw2,c186_9,hw,e]
      refine ⟨by omega,(setL (s &&& (s - 1))).length,by rw [hL];simp,s &&& (s - 1),thenW p q a (Lib.ctz 64 s),rfl,Nat.lt_of_le_of_lt Nat.and_le_left hs,thenW_lt ha,by rw [← hT,hL];rfl,by simp,?_⟩
      rw [if_pos (by omega),relC_splice1 j64,upd_upd];rfl
  · have e:j=p:=by omega
    subst e
    simp -implicitDefEqProofs [c186_13,relC_take,zrel_splice,zrel_length,Ext.lays]
    exact ⟨by simpa [relV] using Clean_rel (m:=h.next),k⟩
theorem prC_length (p:Nat×Nat):(prC p).length=2:=rfl
theorem List_s (g:RelG2 G) {s:Nat} (hs:s < 2 ^ 64) (k:∀ v o,SlG 1 (h.lays [o]) h.next (setL s).length (intsC (setL s)) v→CleanB h.next o→R v (h.lays [o])):WC G 54 [stW s] h R :=
  WC_row (List_set g.toListG hs fun v h1 x sl=>⟨_,_,x,sl,Clean_ints fun v hv=>by simp only [intsC,List.mem_map] at hv;obtain ⟨i,_,rfl⟩:=hv;exact ⟨_,_,rfl⟩,k⟩)
theorem Pairs_r (g:RelG2 G) {n:Nat} {r:Nat→Nat} (hn:n≤64) (hr:RowsOk r) (k:∀ v o,SlG 2 (h.lays [o]) h.next (prs n r).length ((prs n r).flatMap prC) v→CleanB h.next o→R v (h.lays [o])):WC G 138 [relV n r] h R :=
  WC_row (Pairs_rel g.toPairG hn hr fun v h1 x sl=>⟨_,_,x,sl,Clean_ints fun v hv=>by
    simp only [List.mem_flatMap,prC] at hv
    obtain ⟨i,_,hv⟩:=hv
    simp at hv
    rcases hv with rfl | rfl <;> exact ⟨_,_,rfl⟩,k⟩)
end Go.Jq
namespace Go.Jq
def bitsN:Nat→(Nat→Bool)→Nat
  | 0,_=>0
  | n+1,f=>if f n then bitsN n f ||| 2 ^ n else bitsN n f
theorem bitsN_bit {n i:Nat} {f:Nat→Bool}:(bitsN n f).testBit i=(decide (i < n) && f i):=by
  induction n with
  | zero=>simp [bitsN]
  | succ n ih =>
    unfold bitsN
    by_cases h:i=n
    · subst h
      cases e:f i <;> simp [ih,e,Nat.testBit_or,Nat.testBit_two_pow]
    · have h':¬ n=i:=fun e=>h e.symm
      have e2:decide (i < n+1)=decide (i < n):=by simp;omega
      rw [e2]
      split
      · rw [Nat.testBit_or,ih,Nat.testBit_two_pow];simp [h']
      · exact ih
theorem lt_of_bits {s n:Nat} (h:∀ i,n≤i→s.testBit i=false):s < 2 ^ n:=Nat.lt_pow_two_of_testBit s h
theorem bitsN_lt {n:Nat} {f:Nat→Bool} (hn:n≤64):bitsN n f < 2 ^ 64:=lt_of_bits fun i hi=>by rw [bitsN_bit];simp;omega
def relOf (n:Nat) (P:Nat→Nat→Bool):Nat→Nat:=fun a=>if a < n then bitsN n (P a) else 0
theorem relOf_bit {n a b:Nat} {P:Nat→Nat→Bool}:(relOf n P a).testBit b=(decide (a < n) && (decide (b < n) && P a b)):=by
  unfold relOf;split
  · rename_i h;simp [bitsN_bit,h]
  · rename_i h;simp [h]
theorem relOf_ok {n:Nat} {P:Nat→Nat→Bool} (hn:n≤64):RowsOk (relOf n P):=fun a=>by
  unfold relOf;split
  · exact bitsN_lt hn
  · decide
theorem rows_ext {r q:Nat→Nat} (h:∀ a b,(r a).testBit b=(q a).testBit b):r=q:=funext fun a=>Nat.eq_of_testBit_eq (h a)
theorem relOf_ext {n:Nat} {P Q:Nat→Nat→Bool} (h:∀ a b,a < n→b < n→P a b=Q a b):relOf n P=relOf n Q:=rows_ext fun a b=>by
  rw [relOf_bit,relOf_bit]
  by_cases ha:a < n
  · by_cases hb:b < n
    · rw [h a b ha hb]
    · simp [hb]
  · simp [ha]
theorem relOf_none {n:Nat}:(fun _=>0)=relOf n fun _ _=>false:=rows_ext fun a b=>by rw [relOf_bit];simp
theorem relB_of {n a b:Nat} {P:Nat→Nat→Bool} (hn:n≤64):relB n (relOf n P) a b=(decide (a < n) && (decide (b < n) && P a b)):=by
  unfold relB inB hasB
  rw [show (a:Int).toNat=a by omega,show (b:Int).toNat=b by omega,relOf_bit]
  by_cases ha:a < n <;> by_cases hb:b < n <;> simp [ha,hb] <;> omega
def relL (n:Nat) (l:List (Nat×Nat)):Nat→Nat:=relOf n fun a b=>l.contains (a,b)
theorem relL_ok {n:Nat} {l:List (Nat×Nat)} (hn:n≤64):RowsOk (relL n l):=relOf_ok hn
theorem relL_nil {n:Nat}:(fun _=>0)=relL n []:=by rw [relOf_none (n:=n)];exact relOf_ext fun _ _ _ _=>rfl
theorem addR_of {n:Nat} {P:Nat→Nat→Bool} {a b:Nat} (hn:n≤64):addR n (relOf n P) a b=relOf n fun x y=>P x y || (decide (x=a) && decide (y=b)):=rows_ext fun x y=>by
  unfold addR
  split
  · rename_i h
    simp only [inB,Bool.and_eq_true,decide_eq_true_eq] at h
    unfold updR
    have ea:(a:Int).toNat=a:=by omega
    by_cases hx:x=a
    · subst hx
      rw [if_pos ea.symm,withN_bit,ea,relOf_bit,relOf_bit]
      have:x < n:=by omega
      have e64:decide (0≤(b:Int)∧(b:Int) < 64)=true:=by simp;omega
      rw [e64]
      by_cases hy:y=b
      · subst hy;simp [this];omega
      · have:¬ (b:Int)=y:=by omega
        simp [hy,this]
    · rw [if_neg (by omega),relOf_bit,relOf_bit];simp [hx]
  · rename_i h
    simp only [inB,Bool.and_eq_true,decide_eq_true_eq] at h
    rw [relOf_bit,relOf_bit]
    by_cases hx:x=a
    · by_cases hy:y=b
      · subst hx;subst hy
        by_cases h1:x < n
        · by_cases h2:y < n
          · exfalso;omega
          · simp [h2]
        · simp [h1]
      · simp [hy]
    · simp [hx]
theorem addL_of {n:Nat} {l:List (Nat×Nat)} {a b:Nat} (hn:n≤64):addR n (relL n l) a b=relL n (l++[(a,b)]):=by
  unfold relL
  rw [addR_of hn]
  refine relOf_ext fun x y _ _=>?_
  rw [Bool.eq_iff_iff]
  simp [List.contains_iff_mem]
theorem relL_of {n:Nat} {l:List (Nat×Nat)} {P:Nat→Nat→Bool} (h:∀ a b,a < n→b < n→((a,b) ∈ l ↔ P a b=true)):relL n l=relOf n P:=relOf_ext fun a b ha hb=>by
  rw [Bool.eq_iff_iff];simpa [List.contains_iff_mem] using h a b ha hb
theorem uptoN_bit {n i:Nat} (hn:n≤64):(uptoN n).testBit i=decide (i < n):=by
  unfold uptoN
  rw [newN_of hn,Nat.testBit_two_pow_sub_one]
theorem uniR_of {n:Nat} {P Q:Nat→Nat→Bool} (hn:n≤64):uniR n (relOf n P) (relOf n Q)=relOf n fun a b=>P a b || Q a b:=rows_ext fun a b=>by
  unfold uniR bothR
  rw [relOf_bit]
  split
  · rename_i h
    rw [Nat.testBit_and,Nat.testBit_or,relOf_bit,relOf_bit,uptoN_bit hn]
    by_cases hb:b < n <;> simp [h,hb]
  · rename_i h;simp [h]
theorem keepR_of {n s:Nat} {P:Nat→Nat→Bool}:keepR n (relOf n P) s=relOf n fun a b=>P a b && (s.testBit a && s.testBit b):=rows_ext fun a b=>by
  unfold keepR
  rw [relOf_bit]
  split
  · rename_i h
    rw [Nat.testBit_and,relOf_bit]
    by_cases hb:b < n <;> simp [h.1,h.2,hb]
  · rename_i h
    by_cases ha:a < n
    · have:s.testBit a=false:=by simpa [ha] using h
      simp [this]
    · simp [ha]
theorem mem_setL {s i:Nat} (h:s < 2 ^ 64):i ∈ setL s ↔ s.testBit i=true:=by
  unfold setL
  rw [List.mem_filter,List.mem_range]
  refine ⟨fun h=>h.2,fun e=>⟨?_,e⟩⟩
  rcases Nat.lt_or_ge i 64 with q | q
  · exact q
  · rw [Nat.testBit_lt_two_pow (Nat.lt_of_lt_of_le h (Nat.pow_le_pow_right (by omega) q))] at e;simp at e
theorem foldl_bit {α:Type} {f:Nat→α→Nat} {t:α→Nat→Bool} (hf:∀ a x i,(f a x).testBit i=(a.testBit i || t x i)) (l:List α) (a i:Nat):(l.foldl f a).testBit i=(a.testBit i || l.any fun x=>t x i):=by
  induction l generalizing a with
  | nil=>simp
  | cons x l ih=>rw [List.foldl_cons,ih,hf];simp [Bool.or_assoc]
theorem thenR_of {n:Nat} {P Q:Nat→Nat→Bool} (hn:n≤64):thenR n (relOf n P) (relOf n Q)=relOf n fun a b=>(List.range n).any fun c=>P a c && Q c b:=rows_ext fun a b=>by
  unfold thenR
  rw [relOf_bit]
  split
  · rename_i h
    unfold thenRow
    rw [foldl_bit (t:=fun c i=>(relOf n Q c).testBit i && (uptoN n).testBit i) (fun a x i=>by unfold thenW;rw [Nat.testBit_or,Nat.testBit_and])]
    rw [Bool.eq_iff_iff]
    simp only [Nat.zero_testBit,Bool.false_or,List.any_eq_true,Bool.and_eq_true,decide_eq_true_eq,h,true_and,List.mem_range]
    have hlt:relOf n P a &&& uptoN n < 2 ^ 64:=Nat.lt_of_le_of_lt Nat.and_le_left (relOf_ok hn a)
    constructor
    · rintro ⟨c,hc,h1,h2⟩
      rw [mem_setL hlt,Nat.testBit_and,relOf_bit] at hc
      rw [relOf_bit] at h1
      simp only [Bool.and_eq_true,decide_eq_true_eq] at hc h1
      exact ⟨h1.2.1,c,h1.1,hc.1.2.2,h1.2.2⟩
    · rintro ⟨hb,c,hc,h1,h2⟩
      refine ⟨c,?_,?_,?_⟩
      · rw [mem_setL hlt,Nat.testBit_and,relOf_bit,uptoN_bit hn];simp [h,hc,h1]
      · rw [relOf_bit];simp [hc,hb,h2]
      · rw [uptoN_bit hn];simp [hb]
  · rename_i h;simp [h]
theorem rowN_of {n a:Nat} {P:Nat→Nat→Bool}:rowN n (relOf n P) a=relOf n P a:=by
  unfold rowN inB
  by_cases h:a < n
  · simp [h]
  · simp [h,relOf]
theorem mem_prs {n a b:Nat} {P:Nat→Nat→Bool} (hn:n≤64):(a,b) ∈ prs n (relOf n P) ↔ a < n∧b < n∧P a b=true:=by
  unfold prs prow
  simp only [List.mem_flatMap,List.mem_range,List.mem_map,Prod.mk.injEq]
  constructor
  · rintro ⟨x,hx,y,hy,rfl,rfl⟩
    rw [mem_setL (relOf_ok hn x),relOf_bit] at hy
    simp only [Bool.and_eq_true,decide_eq_true_eq] at hy
    exact ⟨hx,hy.2⟩
  · rintro ⟨h1,h2,h3⟩
    exact ⟨a,h1,b,by rw [mem_setL (relOf_ok hn a),relOf_bit];simp [h1,h2,h3],rfl,rfl⟩
end Go.Jq
namespace Go.Jq
variable {G:Nat→SFunc} {h:AH} {R:Value→AH→Prop}
theorem SlV.rd {α:Type} {f:α→List Value} {k:Nat} (hf:∀ x,(f x).length=k) {l:List α} {a:Option Addr} {c:Nat} (s:SlV k h l.length (l.flatMap f) (.slice a l.length c)) {i:Nat} (hi:i < l.length) :
    ∃ b o sp c0 g ro,a=some ⟨b,o,sp⟩∧b < h.next∧h.get b=.cells c0 g ro∧o+i * k+k≤c0.length∧(c0.drop (o+i * k)).take k=f l[i]∧∀ j,j < k→c0[o+i * k+j]?=(f l[i])[j]?:=by
  obtain ⟨b,o,sp,c',c0,g,ro,e1,e2,e3,e4,e5,e6⟩:=s.row hf hi
  simp only [Value.slice.injEq,true_and] at e1
  exact ⟨b,o,sp,c0,g,ro,e1.1,e2,e3,e4,e5,e6⟩
theorem SlV.rds {α:Type} {f:α→List Value} {k:Nat} (hf:∀ x,(f x).length=k) {l:List α} {a:Option Addr} {c:Nat} (s:SlV k h l.length (l.flatMap f) (.slice a l.length c)) (hn:0 < l.length) :
    ∃ b o sp c0 g ro,a=some ⟨b,o,sp⟩∧b < h.next∧h.get b=.cells c0 g ro∧∀ i (hi:i < l.length),o+i * k+k≤c0.length∧(c0.drop (o+i * k)).take k=f l[i]∧∀ j,j < k→c0[o+i * k+j]?=(f l[i])[j]?:=by
  obtain ⟨b,o,sp,c0,g,ro,rfl,e2,e3,_⟩:=s.rd hf hn
  refine ⟨b,o,sp,c0,g,ro,rfl,e2,e3,fun i hi=>?_⟩
  obtain ⟨b',o',sp',c0',g',ro',q1,q2,q3,q4⟩:=s.rd hf hi
  simp only [Option.some.injEq,Addr.mk.injEq] at q1
  obtain ⟨rfl,rfl,rfl⟩:=q1
  rw [e3] at q3
  simp only [ABlk.cells.injEq] at q3
  obtain ⟨rfl,rfl,rfl⟩:=q3
  exact q4
def intA (l:List Int) (i:Nat):Int:=(l[i]?).getD 0
theorem intA_of {l:List Int} {i:Nat} (h:i < l.length):intA l i=l[i]:=by simp [intA,h]
structure Ev6 where
  t:Int
  i:Int
  kind:Int
  loc:Int
  r:Int
  w:Int
  deriving DecidableEq
def Ev6.c (e:Ev6):List Value:=[.int .i64 e.t,.int .i64 e.i,.int .i64 e.kind,.int .i64 e.loc,.int .i64 e.r,.int .i64 e.w]
def Ev6.v (e:Ev6):Value:=.agg #[.int .i64 e.t,.int .i64 e.i,.int .i64 e.kind,.int .i64 e.loc,.int .i64 e.r,.int .i64 e.w]
theorem Ev6.c_length (e:Ev6):e.c.length=6:=rfl
def Ev6.reads (e:Ev6):Bool:=decide (e.kind=1) || (decide (e.kind=4) || decide (e.kind=5))
def Ev6.writes (e:Ev6):Bool:=decide (e.kind=2) || decide (e.kind=4)
def Ev6.fences (e:Ev6):Bool:=decide (e.kind=3) || (decide (e.kind=4) || decide (e.kind=5))
def Ev6.zero:Ev6:=⟨0,0,0,0,0,0⟩
def evA (l:List Ev6) (i:Nat):Ev6:=(l[i]?).getD .zero
theorem evA_of {l:List Ev6} {i:Nat} (h:i < l.length):evA l i=l[i]:=by simp [evA,h]
structure EvG (G:Nat→SFunc):Prop extends RelG2 G where
  g100:G 100=c100
  g101:G 101=c101
  g185:G 185=c185
  g52:G 52=c52
theorem Reads_e (g:EvG G) {e:Ev6} (k:R (.bool e.reads) h):WC G 100 [e.v] h R:=by
  have key:∀ b,e.reads=b→R (.bool b) h:=fun b e=>e ▸ k
  unfold Ev6.reads at key
  by_cases k1:e.kind=1
  · refine WC_pure (WC_enter g.g100 rfl ?_)
    simp -implicitDefEqProofs [c100,c100_body,c100_0,c100_1,Ev6.v,k1,Ext.lays]
    exact key _ (by simp [k1])
  · by_cases k4:e.kind=4
    · refine WC_pure (WC_enter g.g100 rfl ?_)
      simp -implicitDefEqProofs [c100,c100_body,c100_0,c100_1,Ev6.v,k1,k4,Ext.lays]
      exact key _ (by simp [k1,k4])
    · refine WC_pure (WC_enter g.g100 rfl ?_)
      simp -implicitDefEqProofs [c100,c100_body,c100_0,c100_1,Ev6.v,k1,k4,Ext.lays]
      exact key _ (by simp [k1,k4])
theorem Writes_e (g:EvG G) {e:Ev6} (k:R (.bool e.writes) h):WC G 101 [e.v] h R:=by
  have key:∀ b,e.writes=b→R (.bool b) h:=fun b e=>e ▸ k
  unfold Ev6.writes at key
  by_cases k1:e.kind=2
  · refine WC_pure (WC_enter g.g101 rfl ?_)
    simp -implicitDefEqProofs [c101,c101_body,c101_0,c101_1,Ev6.v,k1,Ext.lays]
    exact key _ (by simp [k1])
  · refine WC_pure (WC_enter g.g101 rfl ?_)
    simp -implicitDefEqProofs [c101,c101_body,c101_0,c101_1,Ev6.v,k1,Ext.lays]
    exact key _ (by simp [k1])
theorem Fences_e (g:EvG G) {e:Ev6} (k:R (.bool e.fences) h):WC G 185 [e.v] h R:=by
  have key:∀ b,e.fences=b→R (.bool b) h:=fun b e=>e ▸ k
  unfold Ev6.fences at key
  by_cases k1:e.kind=3
  · refine WC_pure (WC_enter g.g185 rfl ?_)
    simp -implicitDefEqProofs [c185,c185_body,c185_0,c185_1,Ev6.v,k1,Ext.lays]
    exact key _ (by simp [k1])
  · by_cases k4:e.kind=4
    · refine WC_pure (WC_enter g.g185 rfl ?_)
      simp -implicitDefEqProofs [c185,c185_body,c185_0,c185_1,Ev6.v,k1,k4,Ext.lays]
      exact key _ (by simp [k1,k4])
    · refine WC_pure (WC_enter g.g185 rfl ?_)
      simp -implicitDefEqProofs [c185,c185_body,c185_0,c185_1,Ev6.v,k1,k4,Ext.lays]
      exact key _ (by simp [k1,k4])
def cutB (i k a b:Nat):Bool:=decide (a < i) || (decide (a=i) && decide (b < k))
theorem cut_true {n i k:Nat} {P:Nat→Nat→Bool} (hn:n≤64) (e:P i k=true):addR n (relOf n fun a b=>P a b && cutB i k a b) i k=relOf n fun a b=>P a b && cutB i (k+1) a b:=by
  rw [addR_of hn]
  refine relOf_ext fun a b _ _=>?_
  unfold cutB
  by_cases ha:a=i
  · subst ha
    by_cases hb:b=k
    · subst hb;simp [e]
    · have:decide (b < k+1)=decide (b < k):=by simp;omega
      simp [hb,this]
  · simp [ha]
theorem cut_false {n i k:Nat} {P:Nat→Nat→Bool} (e:P i k=false):(relOf n fun a b=>P a b && cutB i k a b)=relOf n fun a b=>P a b && cutB i (k+1) a b:=by
  refine relOf_ext fun a b _ _=>?_
  unfold cutB
  by_cases ha:a=i
  · subst ha
    by_cases hb:b=k
    · subst hb;simp [e]
    · have:decide (b < k+1)=decide (b < k):=by simp;omega
      simp [this]
  · simp [ha]
theorem cut_next {n i:Nat} {P:Nat→Nat→Bool}:(relOf n fun a b=>P a b && cutB i n a b)=relOf n fun a b=>P a b && cutB (i+1) 0 a b:=by
  refine relOf_ext fun a b _ hb=>?_
  unfold cutB
  by_cases ha:a=i
  · subst ha;simp [hb]
  · have:decide (a < i+1)=decide (a < i):=by simp;omega
    simp [ha,this]
theorem cut_end {n:Nat} {P:Nat→Nat→Bool}:(relOf n fun a b=>P a b && cutB n 0 a b)=relOf n P:=relOf_ext fun a b ha _=>by simp [cutB,ha]
theorem cut_none {n:Nat} {P:Nat→Nat→Bool}:(fun _=>0)=relOf n fun a b=>P a b && cutB 0 0 a b:=by
  rw [relOf_none (n:=n)];exact relOf_ext fun a b _ _=>by simp [cutB]
def poE (a b:Ev6):Bool:=(decide (a.t < 0) && decide (0≤b.t)) || (decide (0≤a.t) && (decide (a.t=b.t) && decide (a.i < b.i)))
def poP (l:List Ev6) (a b:Nat):Bool:=poE (evA l a) (evA l b)
def poN (l:List Ev6):Nat:=if 64 < l.length then 0 else l.length
def inv52 (h:AH) (l:List Ev6) (a:Option Addr) (c:Nat) (mm:Nat) (F:Fr) (hh:AH):Prop :=
  ∃ i:Nat,mm=l.length - i∧i≤l.length∧F=[(0,.slice a l.length c),(2,.pointer (some ⟨h.next,0,none⟩)),(3,.pointer (some ⟨h.next+1,0,none⟩)),(15,.slice a l.length c),(16,.int .i64 l.length),(17,.int .i64 i)] ∧
    hh=h.lays [.cells zrel false false,.cells (relC l.length (relOf l.length fun a b=>poP l a b && cutB i 0 a b)) false false]
def inv52b (h:AH) (l:List Ev6) (a:Option Addr) (c i:Nat) (mm:Nat) (F:Fr) (hh:AH):Prop :=
  ∃ k:Nat,mm=l.length - k∧k≤l.length∧F=[(0,.slice a l.length c),(2,.pointer (some ⟨h.next,0,none⟩)),(3,.pointer (some ⟨h.next+1,0,none⟩)),(4,.int .i64 i),(5,.pointer (some ⟨h.next+2,0,none⟩)),(15,.slice a l.length c),(16,.int .i64 l.length),(17,.int .i64 i),
      (22,.slice a l.length c),(23,.int .i64 l.length),(24,.int .i64 k)] ∧
    hh=h.lays [.cells zrel false false,.cells (relC l.length (relOf l.length fun a b=>poP l a b && cutB i k a b)) false false,.cells (evA l i).c false false]
theorem PO_e (g:EvG G) {l:List Ev6} {v:Value} (s:SlV 6 h l.length (l.flatMap Ev6.c) v) (k:R (relV (poN l) (relOf (poN l) (poP l))) h):WC G 52 [v] h R:=by
  obtain ⟨a,c,rfl⟩:=s.len
  refine WC_pure (WC_enter g.g52 rfl ?_)
  unfold poN at k
  simp -implicitDefEqProofs [c52,c52_body,c52_0,c52_1]
  by_cases h1:64 < l.length
  · rw [if_pos h1] at k
    simp -implicitDefEqProofs [h1,show (64:Int) < l.length by omega,c52_2]
    refine New_r g.toRelG ?_
    have:relV 0 (fun _=>0)=relV 0 (relOf 0 (poP l)):=by congr 1
    simp -implicitDefEqProofs [newN,relV,relC_take,zrel_splice,zrel_length,Ext.lays]
    rw [← this] at k
    exact ⟨by simpa [relV] using Clean_rel (m:=h.next),by simpa [relV] using k⟩
  · rw [if_neg h1] at k
    simp -implicitDefEqProofs [h1,show ¬ (64:Int) < l.length by omega,c52_3]
    refine New_r g.toRelG ?_
    have hn:l.length≤64:=by omega
    rw [newN_of hn]
    simp -implicitDefEqProofs [c52_4,relV,relC_take,zrel_splice,zrel_length]
    refine W_loopg (inv52 h l a c) l.length ⟨0,rfl,by omega,rfl,by rw [cut_none (n:=l.length) (P:=poP l)]⟩ ?_
    rintro mm F hh ⟨i,rfl,hi,rfl,rfl⟩
    simp -implicitDefEqProofs [c52_15,c52_5]
    by_cases hi':i < l.length
    · have w1:IntKind.i64.wrap ((i:Int)+1)=((i+1:Nat):Int):=by rw [wrap64 (by omega)];rfl
      obtain ⟨b,o,sp,c0,gg,ro,rfl,hb,hg,hle,hrow,hj⟩:=s.rd Ev6.c_length hi'
      have ei:=evA_of hi'
      have ic:l[i].c=[.int .i64 l[i].t,.int .i64 l[i].i,.int .i64 l[i].kind,.int .i64 l[i].loc,.int .i64 l[i].r,.int .i64 l[i].w]:=rfl
      have z6:zi 6=[.int .i64 0,.int .i64 0,.int .i64 0,.int .i64 0,.int .i64 0,.int .i64 0]:=rfl
      simp -implicitDefEqProofs [hi',c52_6,AH.lays_lt hb,hg,hle,hrow,ic,z6,splice]
      simp -implicitDefEqProofs [c52_7]
      refine W_loopg (inv52b h l (some ⟨b,o,sp⟩) c i) l.length ⟨0,rfl,by omega,rfl,by rw [ei];rfl⟩ ?_
      rintro mm F hh ⟨k,rfl,hk,rfl,rfl⟩
      simp -implicitDefEqProofs [c52_13,c52_8]
      by_cases hk':k < l.length
      · obtain ⟨b',o',sp',c0',gg',ro',e',hb',hg',hle',hrow',hj'⟩:=s.rd Ev6.c_length hk'
        simp only [Option.some.injEq,Addr.mk.injEq] at e'
        obtain ⟨rfl,rfl,rfl⟩:=e'
        have kc:l[k].c=[.int .i64 l[k].t,.int .i64 l[k].i,.int .i64 l[k].kind,.int .i64 l[k].loc,.int .i64 l[k].r,.int .i64 l[k].w]:=rfl
        simp -implicitDefEqProofs [hk',c52_9,AH.lays_lt hb',hg',hle',hrow',kc,z6,splice]
        have ek:=evA_of hk'
        have w2:IntKind.i64.wrap ((k:Int)+1)=((k+1:Nat):Int):=by rw [wrap64 (by omega)];rfl
        have eic:(evA l i).c=[.int .i64 (evA l i).t,.int .i64 (evA l i).i,.int .i64 (evA l i).kind,.int .i64 (evA l i).loc,.int .i64 (evA l i).r,.int .i64 (evA l i).w]:=rfl
        rw [← ek]
        have sg:∀ x y:Int,¬ x < 0→(0≤x):=fun _ _ h=>by omega
        generalize eQ:wO G c52_10 _ _ _=Q
        by_cases a1:(evA l i).t < 0
        · have a1':¬ 0≤(evA l i).t:=by omega
          by_cases a2:0≤(evA l k).t
          · skip
            subst eQ
            have cT:=cut_true (P:=poP l) (i:=i) (k:=k) hn (by simp [poP,poE,a1,a1',a2])
            simp -implicitDefEqProofs [c52_10,a1,a1',a2,Ev6.c,c52_11,relC_take]
            refine Add_r g.toRelG hn (relOf_ok hn) ?_
            rw [cT]
            simp -implicitDefEqProofs [relV,relC_take,relC_splice,c52_12,w2]
            exact gcK_lays 3 (by simp) (by simp) (by simp) ⟨l.length - (k+1),by omega,k+1,rfl,by omega,by simp,rfl⟩
          · skip
            subst eQ
            have cF:=cut_false (n:=l.length) (P:=poP l) (i:=i) (k:=k) (by simp [poP,poE,a1,a1',a2])
            simp -implicitDefEqProofs [c52_10,a1,a1',a2,Ev6.c,c52_12,w2]
            exact gcK_lays 3 (by simp) (by simp) (by simp) ⟨l.length - (k+1),by omega,k+1,rfl,by omega,by simp,by rw [← cF];rfl⟩
        · have a1':0≤(evA l i).t:=by omega
          by_cases a3:(evA l i).t=(evA l k).t
          · by_cases a4:(evA l i).i < (evA l k).i
            · skip
              subst eQ
              have cT:=cut_true (P:=poP l) (i:=i) (k:=k) hn (by simp [poP,poE,a1,a1',eq_true a3,a4])
              simp -implicitDefEqProofs [c52_10,a1,a1',eq_true a3,a4,Ev6.c,c52_11,relC_take]
              refine Add_r g.toRelG hn (relOf_ok hn) ?_
              rw [cT]
              simp -implicitDefEqProofs [relV,relC_take,relC_splice,c52_12,w2]
              exact gcK_lays 3 (by simp) (by simp) (by simp) ⟨l.length - (k+1),by omega,k+1,rfl,by omega,by simp,rfl⟩
            · skip
              subst eQ
              have cF:=cut_false (n:=l.length) (P:=poP l) (i:=i) (k:=k) (by simp [poP,poE,a1,a1',eq_true a3,a4])
              simp -implicitDefEqProofs [c52_10,a1,a1',eq_true a3,a4,Ev6.c,c52_12,w2]
              exact gcK_lays 3 (by simp) (by simp) (by simp) ⟨l.length - (k+1),by omega,k+1,rfl,by omega,by simp,by rw [← cF];rfl⟩
          · skip
            subst eQ
            have cF:=cut_false (n:=l.length) (P:=poP l) (i:=i) (k:=k) (by simp [poP,poE,a1,a1',a3])
            simp -implicitDefEqProofs [c52_10,a1,a1',a3,Ev6.c,c52_12,w2]
            exact gcK_lays 3 (by simp) (by simp) (by simp) ⟨l.length - (k+1),by omega,k+1,rfl,by omega,by simp,by rw [← cF];rfl⟩
      · have e:k=l.length:=by omega
        subst e
        simp -implicitDefEqProofs [c52_14,w1]
        exact gcK_lays 2 (by simp) (by simp) (by simp) ⟨l.length - (i+1),by omega,i+1,rfl,by omega,by simp,by rw [← cut_next];rfl⟩
    · have e:i=l.length:=by omega
      subst e
      simp -implicitDefEqProofs [c52_16,relC_take,zrel_splice,zrel_length,Ext.lays]
      rw [cut_end]
      exact ⟨by simpa [relV] using Clean_rel (m:=h.next),k⟩
end Go.Jq
namespace Go.Jq
variable {G:Nat→SFunc} {h:AH} {R:Value→AH→Prop}
def NestX {α:Type} (f:α→List Value) (k:Nat) (h:AH) (ths:List (List α)) (v:Value):Prop:=∃ tvs,SlX 1 h ths.length tvs v∧All2 (fun (l:List α) u=>SlX k h l.length (l.flatMap f) u) ths tvs
theorem NestX.ext {α:Type} {f:α→List Value} {k:Nat} {h h1:AH} {ths:List (List α)} {v:Value} (n:NestX f k h ths v) (x:Ext h h1):NestX f k h1 ths v:=by
  obtain ⟨tvs,h1,h2⟩:=n
  exact ⟨tvs,h1.ext x,h2.imp fun _ _ _ _ s=>s.ext x⟩
theorem NestX.len {α:Type} {f:α→List Value} {k:Nat} {h:AH} {ths:List (List α)} {v:Value} (n:NestX f k h ths v):∃ a c,v=.slice a ths.length c:=by
  obtain ⟨tvs,h1,h2⟩:=n;exact h1.len
theorem NestX.at {α:Type} {f:α→List Value} {k:Nat} {h:AH} {ths:List (List α)} {a:Option Addr} {c:Nat} (n:NestX f k h ths (.slice a ths.length c)) {i:Nat} (hi:i < ths.length) :
    ∃ b o sp c0 g ro u,a=some ⟨b,o,sp⟩∧b < h.next∧h.get b=.cells c0 g ro∧c0[o+i]?=some u∧SlX k h ths[i].length (ths[i].flatMap f) u:=by
  obtain ⟨tvs,h1,h2⟩:=n
  obtain ⟨hm,hs⟩:=h2.at hi
  have h1':SlV 1 h tvs.length (tvs.flatMap oneC) (.slice a ths.length c):=by rw [oneC_fm,← h2.len];exact h1.view
  obtain ⟨b,o,sp,c,c0,g,ro,e1,e2,e3,e4,e5,e6⟩:=h1'.row oneC_length hm
  simp only [Value.slice.injEq] at e1
  refine ⟨b,o,sp,c0,g,ro,tvs[i],e1.1,e2,e3,?_,hs⟩
  have:=e6 0 (by omega)
  simpa [oneC] using this
structure Exe where
  evs:List Ev6
  rf:List Int
  co:List (List Int)
structure ExeV (h:AH) (x:Exe) (ev rv cv:Value):Prop where
  evs:SlV 6 h x.evs.length (x.evs.flatMap Ev6.c) ev
  rf:SlV 1 h x.rf.length (x.rf.flatMap intC) rv
  co:NestX intC 1 h x.co cv
theorem ExeV.ext {h1:AH} {x:Exe} {ev rv cv:Value} (v:ExeV h x ev rv cv) (e:Ext h h1):ExeV h1 x ev rv cv:=⟨v.evs.ext e,v.rf.ext e,v.co.ext e⟩
structure AxG (G:Nat→SFunc):Prop extends EvG G where
  g125:G 125=c125
  g126:G 126=c126
  g127:G 127=c127
  g128:G 128=c128
  g129:G 129=c129
  g182:G 182=c182
  g183:G 183=c183
  g71:G 71=c71
  g131:G 131=c131
  g130:G 130=c130
  g72:G 72=c72
  g73:G 73=c73
  g135:G 135=c135
  g75:G 75=c75
  g30:G 30=c30
  g136:G 136=c136
  g76:G 76=c76
  g77:G 77=c77
  g35:G 35=c35
  g338:G 338=c338
def idxF {α:Type} (P:α→Bool) (l:List α):Int:=match l.findIdx? P with
  | some i=>i
  | none=>-1
theorem idxF_at {α:Type} {P:α→Bool} {l:List α} {j:Nat} (hj:j < l.length) (hP:P l[j]=true) (hn:∀ i (hi:i < j),P (l[i]'(by omega))=false):idxF P l=j:=by
  unfold idxF
  have:l.findIdx? P=some j:=by
    rw [List.findIdx?_eq_some_iff_getElem]
    exact ⟨hj,hP,fun i hi=>by simp [hn i hi]⟩
  rw [this]
theorem idxF_none {α:Type} {P:α→Bool} {l:List α} (hn:∀ i (hi:i < l.length),P l[i]=false):idxF P l=-1:=by
  unfold idxF
  have:l.findIdx? P=none:=by
    rw [List.findIdx?_eq_none_iff]
    intro x hx
    obtain ⟨i,hi,rfl⟩:=List.getElem_of_mem hx
    exact hn i hi
  rw [this]
theorem idxF_any {α:Type} {P:α→Bool} {l:List α}:decide (0≤idxF P l)=l.any P:=by
  unfold idxF
  cases e:l.findIdx? P with
  | none =>
    rw [List.findIdx?_eq_none_iff] at e
    have:l.any P=false:=by rw [List.any_eq_false];intro x hx;simp [e x hx]
    rw [this];rfl
  | some i =>
    rw [List.findIdx?_eq_some_iff_getElem] at e
    obtain ⟨hi,hp,_⟩:=e
    have:l.any P=true:=List.any_eq_true.2 ⟨_,List.getElem_mem hi,hp⟩
    rw [this];simp
def invIx (h:AH) (v fv:Value) {α:Type} (P:α→Bool) (l:List α) (mm:Nat) (F:Fr) (hh:AH):Prop :=
  ∃ j:Nat,mm=l.length - j∧j≤l.length∧(∀ i (hi:i < l.length),i < j→P l[i]=false)∧hh=h∧F=[(0,v),(1,fv),(7,.int .i64 l.length),(8,.int .i64 j)]
theorem IndexFunc_i (g:AxG G) {l:List Int} {v:Value} {fn:Nat} {caps:List Value} {P:Int→Bool} (s:SlV 1 h l.length (l.flatMap intC) v) (hl:l.length≤9223372036854775806)
    (hf:∀ x (R:Value→AH→Prop),x ∈ l→R (.bool (P x)) h→WC G fn (.int .i64 x::caps) h R) (k:R (.int .i64 (idxF P l)) h):WC G 182 [v,.func (.func fn) #[] caps.toArray] h R:=by
  obtain ⟨a,c,rfl⟩:=s.len
  refine WC_enter g.g182 rfl ?_
  simp -implicitDefEqProofs [c182,c182_body,c182_0,c182_1]
  refine W_loop (invIx h (.slice a l.length c) (.func (.func fn) #[] caps.toArray) P l) l.length ⟨0,rfl,by omega,fun _ _ h=>by omega,rfl,rfl⟩ ?_
  rintro mm F hh ⟨j,rfl,hj,hno,rfl,rfl⟩
  simp -implicitDefEqProofs [c182_7,c182_2]
  by_cases h1:j < l.length
  · obtain ⟨b,o,sp,c0,gg,ro,rfl,hb,hg,hle,hrow,hr⟩:=s.rd intC_length h1
    have r0:=hr 0 (by omega)
    have w1:IntKind.i64.wrap ((j:Int)+1)=((j+1:Nat):Int):=by rw [wrap64 (by omega)];rfl
    simp only [intC,Nat.add_zero,List.getElem?_cons_zero,Nat.mul_one] at r0
    simp -implicitDefEqProofs [h1,c182_3,c182_4,hg,r0]
    refine hf _ _ (List.getElem_mem h1) ?_
    cases e:P l[j] with
    | true =>
      simp -implicitDefEqProofs [c182_5]
      rw [idxF_at h1 e fun i hi=>hno i (by omega) hi] at k
      exact k
    | false =>
      simp -implicitDefEqProofs [c182_6,w1]
      refine ⟨l.length - (j+1),by omega,j+1,rfl,by omega,fun i hi h2=>?_,rfl,by simp⟩
      by_cases ei:i=j
      · subst ei;exact e
      · exact hno i hi (by omega)
  · simp -implicitDefEqProofs [h1,c182_8]
    rw [idxF_none fun i hi=>hno i hi (by omega)] at k
    exact k
theorem Contains_i (g:AxG G) {l:List Int} {v:Value} {fn:Nat} {caps:List Value} {P:Int→Bool} (s:SlV 1 h l.length (l.flatMap intC) v) (hl:l.length≤9223372036854775806)
    (hf:∀ x (R:Value→AH→Prop),x ∈ l→R (.bool (P x)) h→WC G fn (.int .i64 x::caps) h R) (k:R (.bool (l.any P)) h):WC G 126 [v,.func (.func fn) #[] caps.toArray] h R:=by
  refine WC_enter g.g126 rfl ?_
  simp -implicitDefEqProofs [c126,c126_body,c126_0,c126_1]
  refine IndexFunc_i g s hl hf ?_
  simp -implicitDefEqProofs [idxF_any]
  exact k
theorem IndexFunc_r (g:AxG G) {l:List (List Int)} {v:Value} {fn:Nat} {caps:List Value} {P:List Int→Bool} (s:NestX intC 1 h l v) (hl:l.length≤9223372036854775806)
    (hf:∀ x u (R:Value→AH→Prop),x ∈ l→SlX 1 h x.length (x.flatMap intC) u→R (.bool (P x)) h→WC G fn (u::caps) h R) (k:R (.int .i64 (idxF P l)) h):WC G 183 [v,.func (.func fn) #[] caps.toArray] h R:=by
  obtain ⟨a,c,rfl⟩:=s.len
  refine WC_enter g.g183 rfl ?_
  simp -implicitDefEqProofs [c183,c183_body,c183_0,c183_1]
  refine W_loop (invIx h (.slice a l.length c) (.func (.func fn) #[] caps.toArray) P l) l.length ⟨0,rfl,by omega,fun _ _ h=>by omega,rfl,rfl⟩ ?_
  rintro mm F hh ⟨j,rfl,hj,hno,rfl,rfl⟩
  simp -implicitDefEqProofs [c183_7,c183_2]
  by_cases h1:j < l.length
  · obtain ⟨b,o,sp,c0,gg,ro,u,rfl,hb,hg,r0,su⟩:=s.at h1
    have w1:IntKind.i64.wrap ((j:Int)+1)=((j+1:Nat):Int):=by rw [wrap64 (by omega)];rfl
    simp -implicitDefEqProofs [h1,c183_3,c183_4,hg,r0]
    refine hf _ _ _ (List.getElem_mem h1) su ?_
    cases e:P l[j] with
    | true =>
      simp -implicitDefEqProofs [c183_5]
      rw [idxF_at h1 e fun i hi=>hno i (by omega) hi] at k
      exact k
    | false =>
      simp -implicitDefEqProofs [c183_6,w1]
      refine ⟨l.length - (j+1),by omega,j+1,rfl,by omega,fun i hi h2=>?_,rfl,by simp⟩
      by_cases ei:i=j
      · subst ei;exact e
      · exact hno i hi (by omega)
  · simp -implicitDefEqProofs [h1,c183_8]
    rw [idxF_none fun i hi=>hno i hi (by omega)] at k
    exact k
theorem Contains_r (g:AxG G) {l:List (List Int)} {v:Value} {fn:Nat} {caps:List Value} {P:List Int→Bool} (s:NestX intC 1 h l v) (hl:l.length≤9223372036854775806)
    (hf:∀ x u (R:Value→AH→Prop),x ∈ l→SlX 1 h x.length (x.flatMap intC) u→R (.bool (P x)) h→WC G fn (u::caps) h R) (k:R (.bool (l.any P)) h):WC G 128 [v,.func (.func fn) #[] caps.toArray] h R:=by
  refine WC_enter g.g128 rfl ?_
  simp -implicitDefEqProofs [c128,c128_body,c128_0,c128_1]
  refine IndexFunc_r g s hl hf ?_
  simp -implicitDefEqProofs [idxF_any]
  exact k
def idxI (l:List Int) (x:Int):Int:=idxF (fun y=>decide (x=y)) l
def invI1 (h:AH) (v:Value) (x:Int) (l:List Int) (mm:Nat) (F:Fr) (hh:AH):Prop :=
  ∃ j:Nat,mm=l.length - j∧j≤l.length∧(∀ i (hi:i < l.length),i < j→decide (x=l[i])=false)∧hh=h∧F=[(0,v),(1,.int .i64 x),(7,.int .i64 l.length),(8,.int .i64 j)]
theorem Index_i (g:AxG G) {l:List Int} {v:Value} {x:Int} (s:SlV 1 h l.length (l.flatMap intC) v) (hl:l.length≤9223372036854775806) (k:R (.int .i64 (idxI l x)) h):WC G 131 [v,.int .i64 x] h R:=by
  obtain ⟨a,c,rfl⟩:=s.len
  refine WC_enter g.g131 rfl ?_
  simp -implicitDefEqProofs [c131,c131_body,c131_0,c131_1]
  refine W_loop (invI1 h (.slice a l.length c) x l) l.length ⟨0,rfl,by omega,fun _ _ h=>by omega,rfl,rfl⟩ ?_
  rintro mm F hh ⟨j,rfl,hj,hno,rfl,rfl⟩
  simp -implicitDefEqProofs [c131_7,c131_2]
  unfold idxI at k
  by_cases h1:j < l.length
  · obtain ⟨b,o,sp,c0,gg,ro,rfl,hb,hg,hle,hrow,hr⟩:=s.rd intC_length h1
    have r0:=hr 0 (by omega)
    have w1:IntKind.i64.wrap ((j:Int)+1)=((j+1:Nat):Int):=by rw [wrap64 (by omega)];rfl
    simp only [intC,Nat.add_zero,List.getElem?_cons_zero,Nat.mul_one] at r0
    simp -implicitDefEqProofs [h1,c131_3,c131_4,hg,r0]
    by_cases e:x=l[j]
    · simp -implicitDefEqProofs [e,c131_5]
      rw [idxF_at h1 (by simp [e]) fun i hi=>hno i (by omega) hi] at k
      exact k
    · simp -implicitDefEqProofs [e,c131_6,w1]
      refine ⟨l.length - (j+1),by omega,j+1,rfl,by omega,fun i hi h2=>?_,rfl,by simp⟩
      by_cases ei:i=j
      · subst ei;simp [e]
      · exact hno i hi (by omega)
  · simp -implicitDefEqProofs [h1,c131_8]
    rw [idxF_none fun i hi=>hno i hi (by omega)] at k
    exact k
def badB (lo:Int) (n:Nat) (x:Int):Bool:=decide (x < lo) || decide ((n:Int)≤x)
theorem bad1 (g:AxG G) {x:Int} {n b:Nat} (gb:h.get b=.cells [.int .i64 n] false false) (k:R (.bool (badB 0 n x)) h):WC G 125 [.int .i64 x,.pointer (some ⟨b,0,none⟩)] h R:=by
  unfold badB at k
  by_cases h1:x < 0
  · refine WC_enter g.g125 rfl ?_
    simp -implicitDefEqProofs [c125,c125_body,c125_0,c125_1,h1]
    simpa [h1] using k
  · refine WC_enter g.g125 rfl ?_
    simp -implicitDefEqProofs [c125,c125_body,c125_0,c125_1,h1,gb]
    simpa [h1] using k
theorem bad2 (g:AxG G) {x:Int} {n b:Nat} (gb:h.get b=.cells [.int .i64 n] false false) (k:R (.bool (badB (-1) n x)) h):WC G 127 [.int .i64 x,.pointer (some ⟨b,0,none⟩)] h R:=by
  unfold badB at k
  by_cases h1:x < -1
  · refine WC_enter g.g127 rfl ?_
    simp -implicitDefEqProofs [c127,c127_body,c127_0,c127_1,h1]
    simpa [h1] using k
  · refine WC_enter g.g127 rfl ?_
    simp -implicitDefEqProofs [c127,c127_body,c127_0,c127_1,h1,gb]
    simpa [h1] using k
theorem bad3 (g:AxG G) {l:List Int} {v:Value} {n b b':Nat} (s:SlV 1 h l.length (l.flatMap intC) v) (hl:l.length≤9223372036854775806) (gb:h.get b=.cells [.int .i64 n] false false) (gb':h.get b'=.cells [.func (.func 125) #[] #[.pointer (some ⟨b,0,none⟩)]] false false)
    (k:R (.bool (l.any (badB 0 n))) h):WC G 129 [v,.pointer (some ⟨b',0,none⟩)] h R:=by
  refine WC_enter g.g129 rfl ?_
  simp -implicitDefEqProofs [c129,c129_body,c129_0,c129_1,gb']
  refine Contains_i (caps:=[.pointer (some ⟨b,0,none⟩)]) g s hl (fun x R _ k=>bad1 g gb k) ?_
  simp -implicitDefEqProofs
  exact k
def soundM (x:Exe):Bool:=decide (x.evs.length≤64) && (decide (x.rf.length=x.evs.length) && (!(x.rf.any (badB (-1) x.evs.length)) && !(x.co.any fun l=>l.any (badB 0 x.evs.length))))
theorem sound_s (g:AxG G) {x:Exe} {ev rv cv:Value} (V:ExeV h x ev rv cv) (he:x.evs.length≤9223372036854775806) (hc:x.co.length≤9223372036854775806) (hr:∀ l ∈ x.co,l.length≤9223372036854775806) (k:R (.bool (soundM x)) h):WC G 71 [.agg #[ev,rv,cv]] h R:=by
  obtain ⟨ea,ec,rfl⟩:=V.evs.len
  obtain ⟨ra,rc,rfl⟩:=V.rf.len
  obtain ⟨ca,cc,rfl⟩:=V.co.len
  have key:∀ b,soundM x=b→R (.bool b) h:=fun b e=>e ▸ k
  unfold soundM at key
  refine WC_pure (WC_enter g.g71 rfl ?_)
  simp -implicitDefEqProofs [c71,c71_body,c71_0,c71_1,c71_2]
  generalize eQ:wO G c71_3 _ _ _=Q
  by_cases h1:64 < x.evs.length
  · subst eQ
    simp -implicitDefEqProofs [c71_3,h1,show (64:Int) < x.evs.length by omega,c71_4,Ext.lays]
    exact key _ (by simp;omega)
  · by_cases h2:x.rf.length=x.evs.length
    · subst eQ
      simp -implicitDefEqProofs [c71_3,h1,h2,show ¬ (64:Int) < x.evs.length by omega]
      rw [h2] at V
      refine Contains_i (caps:=[.pointer (some ⟨h.next+1,0,none⟩)]) (P:=badB (-1) x.evs.length) g (V.rf.ext .lays) (by omega) (fun y R _ k=>bad2 g (by simp) k) ?_
      cases e:x.rf.any (badB (-1) x.evs.length) with
      | true =>
        simp -implicitDefEqProofs [c71_4,Ext.lays]
        exact key _ (by simp [e])
      | false =>
        simp -implicitDefEqProofs [c71_5]
        refine Contains_r (caps:=[.pointer (some ⟨h.next+2,0,none⟩)]) (P:=fun l=>l.any (badB 0 x.evs.length)) g (V.co.ext .lays) hc (fun y u R hy s k=>bad3 (b:=h.next+1) g s.view (hr y hy) (by simp) (by simp) k) ?_
        simp -implicitDefEqProofs [Ext.lays]
        exact key _ (by simp [e,h2];omega)
    · subst eQ
      simp -implicitDefEqProofs [c71_3,h1,h2,show ¬ (64:Int) < x.evs.length by omega,show ¬ (x.rf.length:Int)=x.evs.length by omega,c71_4,Ext.lays]
      exact key _ (by simp [h2])
def behindM (x:Exe) (w:Int):List Int:=match x.co.find? fun l=>decide (0≤idxI l w) with
  | some l=>l.drop ((idxI l w).toNat+1)
  | none=>[]
theorem idxF_lt {α:Type} {P:α→Bool} {l:List α}:idxF P l < l.length:=by
  unfold idxF
  split
  · rename_i i e
    rw [List.findIdx?_eq_some_iff_getElem] at e
    obtain ⟨hi,_⟩:=e;omega
  · omega
def inv130 (h:AH) (x:Exe) (w:Int) (ev rv cv:Value) (mm:Nat) (F:Fr) (hh:AH):Prop :=
  ∃ j:Nat,mm=x.co.length - j∧j≤x.co.length∧(∀ i (hi:i < x.co.length),i < j→decide (0≤idxI x.co[i] w)=false)∧hh=h.lays [.cells [ev,rv,cv] false false]∧F=[(1,.int .i64 w),(9,cv),(10,.int .i64 x.co.length),(11,.int .i64 j)]
theorem find_at {α:Type} {P:α→Bool} {l:List α} {j:Nat} (hj:j < l.length) (hP:P l[j]=true) (hn:∀ i (hi:i < l.length),i < j→P l[i]=false):l.find? P=some l[j]:=by
  rw [List.find?_eq_some_iff_getElem]
  exact ⟨hP,j,hj,rfl,fun i hi=>by simp [hn i (by omega) hi]⟩
theorem behind_x (g:AxG G) {h0:AH} {x:Exe} {w:Int} {ev rv cv:Value} (x0:Ext h0 h) (V:ExeV h0 x ev rv cv) (hc:x.co.length≤9223372036854775806) (hr:∀ l ∈ x.co,l.length≤9223372036854775806)
    (k:∀ v,SlX 1 h0 (behindM x w).length ((behindM x w).flatMap intC) v→R v h):WC G 130 [.agg #[ev,rv,cv],.int .i64 w] h R:=by
  obtain ⟨ca,cc,rfl⟩:=V.co.len
  refine WC_pure (WC_enter g.g130 rfl ?_)
  simp -implicitDefEqProofs [c130,c130_body,c130_0,c130_1]
  refine W_loop (inv130 h x w ev rv (.slice ca x.co.length cc)) x.co.length ⟨0,rfl,by omega,fun _ _ h=>by omega,rfl,rfl⟩ ?_
  rintro mm F hh ⟨j,rfl,hj,hno,rfl,rfl⟩
  simp -implicitDefEqProofs [c130_8,c130_2]
  unfold behindM at k
  by_cases h1:j < x.co.length
  · obtain ⟨b,o,sp,c0,gg,ro,u,rfl,hb,hg,r0,su⟩:=V.co.at h1
    rw [← x0.get b hb] at hg
    replace hb:=Nat.lt_of_lt_of_le hb x0.next
    have w1:IntKind.i64.wrap ((j:Int)+1)=((j+1:Nat):Int):=by rw [wrap64 (by omega)];rfl
    simp -implicitDefEqProofs [h1,c130_3,AH.lays_lt hb,hg,r0,c130_4]
    have hlen:=hr _ (List.getElem_mem h1)
    refine Index_i g (su.ext (x0.trans .lays)).view hlen ?_
    simp -implicitDefEqProofs [c130_5]
    by_cases h2:0≤idxI x.co[j] w
    · obtain ⟨p,hp⟩:=Int.eq_ofNat_of_zero_le h2
      have hlt:idxI x.co[j] w < x.co[j].length:=idxF_lt
      have hw:IntKind.i64.wrap ((p:Int)+1)=((p+1:Nat):Int):=by rw [wrap64 (by omega)];rfl
      obtain ⟨ua,uc,rfl⟩:=su.len
      obtain ⟨v',e1,s1,b1⟩:=su.drop (i:=p+1) (by omega) (by omega)
      rw [show ((p+1:Nat):Int)=(p:Int)+1 from rfl] at e1
      rw [find_at h1 (by simp [h2]) hno] at k
      simp only [hp,Int.toNat_natCast] at k
      have hk:=k v' (by
        have:=fm_drop intC_length x.co[j] (p+1)
        rw [Nat.mul_one] at this s1
        rw [List.length_drop,← this]
        exact s1)
      have cl:Clean h.next v':=by
        rcases s1.2 with ⟨_,rfl⟩ | ⟨b,o,sp,c,c0,g,ro,rfl,_,_,hb,_⟩
        · simp
        · simpa using Nat.lt_of_lt_of_le hb x0.next
      simp -implicitDefEqProofs [hp,c130_6,hw,e1,Ext.lays,cl]
      exact hk
    · simp -implicitDefEqProofs [h2,c130_7,w1]
      refine ⟨x.co.length - (j+1),by omega,j+1,rfl,by omega,fun i hi h2'=>?_,rfl,by simp⟩
      by_cases ei:i=j
      · subst ei;simp;omega
      · exact hno i hi (by omega)
  · have:x.co.find? (fun l=>decide (0≤idxI l w))=none:=by
      rw [List.find?_eq_none]
      intro l hl
      obtain ⟨i,hi,rfl⟩:=List.getElem_of_mem hl
      simp [hno i hi (by omega)]
    rw [this] at k
    simp -implicitDefEqProofs [h1,c130_9,Ext.lays]
    exact k _ SlX.nil
theorem behind_s (g:AxG G) {x:Exe} {w:Int} {ev rv cv:Value} (V:ExeV h x ev rv cv) (hc:x.co.length≤9223372036854775806) (hr:∀ l ∈ x.co,l.length≤9223372036854775806)
    (k:∀ v,SlX 1 h (behindM x w).length ((behindM x w).flatMap intC) v→R v h):WC G 130 [.agg #[ev,rv,cv],.int .i64 w] h R:=behind_x g (Ext.refl h) V hc hr k
end Go.Jq
namespace Go.Jq
variable {G:Nat→SFunc} {h:AH} {R:Value→AH→Prop}
structure ExeOk (x:Exe):Prop where
  evs:x.evs.length≤9223372036854775806
  co:x.co.length≤9223372036854775806
  rows:∀ l ∈ x.co,l.length≤9223372036854775806
def tornB (x:Exe) (i:Nat):Bool:=decide ((evA x.evs i).kind=4) && decide (0 < idxI (behindM x (intA x.rf i)) i)
def atomicM (x:Exe):Bool:=soundM x && !((List.range x.evs.length).any (tornB x))
theorem soundM_of {x:Exe} (h:soundM x=true):x.evs.length≤64∧x.rf.length=x.evs.length∧(∀ i ∈ x.rf,-1≤i∧i < x.evs.length)∧∀ l ∈ x.co,∀ i ∈ l,0≤i∧i < x.evs.length:=by
  unfold soundM at h
  simp only [Bool.and_eq_true,decide_eq_true_eq,Bool.not_eq_true',List.any_eq_false,badB,Bool.or_eq_true,not_or,Int.not_lt,Int.not_le,List.any_eq_true,not_exists,not_and] at h
  obtain ⟨h1,h2,h3,h4⟩:=h
  exact ⟨h1,h2,fun i hi=>h3 i hi,fun l hl i hi=>h4 l hl i hi⟩
def inv72 (h:AH) (x:Exe) (ev rv cv:Value) (mm:Nat) (F:Fr) (hh:AH):Prop :=
  ∃ j:Nat,mm=x.evs.length - j∧j≤x.evs.length∧(∀ i,i < j→tornB x i=false)∧hh=h.lays [.cells [ev,rv,cv] false false]∧F=[(1,.pointer (some ⟨h.next,0,none⟩)),(11,ev),(12,.int .i64 x.evs.length),(13,.int .i64 j)]
theorem z6:zi 6=[.int .i64 0,.int .i64 0,.int .i64 0,.int .i64 0,.int .i64 0,.int .i64 0]:=rfl
theorem Atomic_s (g:AxG G) {x:Exe} {ev rv cv:Value} (V:ExeV h x ev rv cv) (o:ExeOk x) (k:R (.bool (atomicM x)) h):WC G 72 [.agg #[ev,rv,cv]] h R:=by
  obtain ⟨ea,ec,rfl⟩:=V.evs.len
  refine WC_pure (WC_enter g.g72 rfl ?_)
  unfold atomicM at k
  simp -implicitDefEqProofs [c72,c72_body,c72_0,c72_1]
  refine sound_s g (V.ext .lays) o.evs o.co o.rows ?_
  cases es:soundM x with
  | false =>
    rw [es] at k
    simp -implicitDefEqProofs [c72_2,Ext.lays]
    exact k
  | true =>
    rw [es] at k
    simp only [Bool.true_and] at k
    obtain ⟨hn,hrf,_⟩:=soundM_of es
    obtain ⟨ra,rc,rfl⟩:=V.rf.len
    simp -implicitDefEqProofs [c72_3]
    refine W_loopg (inv72 h x (.slice ea x.evs.length ec) (.slice ra x.rf.length rc) cv) x.evs.length ⟨0,rfl,by omega,fun _ h=>by omega,rfl,rfl⟩ ?_
    rintro mm F hh ⟨j,rfl,hj,hno,rfl,rfl⟩
    simp -implicitDefEqProofs [c72_12,c72_4]
    by_cases h1:j < x.evs.length
    · obtain ⟨b,o',sp,c0,gg,ro,rfl,hb,hg,hle,hrow,hr⟩:=V.evs.rd Ev6.c_length h1
      have w1:IntKind.i64.wrap ((j:Int)+1)=((j+1:Nat):Int):=by rw [wrap64 (by omega)];rfl
      have ej:=evA_of h1
      rw [← ej] at hrow
      have step:tornB x j=false→∀ i,i < j+1→tornB x i=false:=fun e i hi=>by
        by_cases ei:i=j
        · subst ei;exact e
        · exact hno i (by omega)
      simp -implicitDefEqProofs [h1,c72_5,AH.lays_lt hb,hg,hle,hrow,Ev6.c,z6,splice]
      generalize eQ:wO G c72_6 _ _ _=Q
      by_cases k4:(evA x.evs j).kind=4
      · have h1':j < x.rf.length:=by omega
        obtain ⟨b',o'',sp',c0',gg',ro',rfl,hb',hg',hle',hrow',hr'⟩:=V.rf.rd intC_length h1'
        have r0:=hr' 0 (by omega)
        rw [← intA_of h1'] at r0
        simp only [intC,Nat.add_zero,List.getElem?_cons_zero,Nat.mul_one] at r0
        subst eQ
        simp -implicitDefEqProofs [c72_6,k4,c72_7,c72_7b,AH.lays_lt hb',hg',r0,h1']
        refine behind_s g (V.ext .lays) o.co o.rows fun v sv=>?_
        simp -implicitDefEqProofs [AH.lays_lt hb',hg',r0,h1',c72_8]
        have hbl:(behindM x (intA x.rf j)).length≤9223372036854775806:=by
          unfold behindM
          split
          · rename_i l e
            have:=o.rows l (List.mem_of_find?_eq_some e)
            rw [List.length_drop];omega
          · simp
        refine Index_i g sv.view hbl ?_
        simp -implicitDefEqProofs [c72_9]
        by_cases h0:0 < idxI (behindM x (intA x.rf j)) j
        · have:(List.range x.evs.length).any (tornB x)=true:=List.any_eq_true.2 ⟨j,List.mem_range.2 h1,by simp [tornB,k4,h0]⟩
          rw [this] at k
          simp -implicitDefEqProofs [h0,c72_10,Ext.lays]
          exact k
        · simp -implicitDefEqProofs [h0,c72_11,w1]
          exact gcK_lays 1 (by simp) (by simp) (by simp) ⟨x.evs.length - (j+1),by omega,j+1,rfl,by omega,step (by simp [tornB,h0]),rfl,by simp⟩
      · subst eQ
        simp -implicitDefEqProofs [c72_6,k4,c72_11,w1]
        exact gcK_lays 1 (by simp) (by simp) (by simp) ⟨x.evs.length - (j+1),by omega,j+1,rfl,by omega,step (by simp [tornB,k4]),rfl,by simp⟩
    · have:(List.range x.evs.length).any (tornB x)=false:=by
        rw [List.any_eq_false];intro i hi;rw [List.mem_range] at hi;simp [hno i (by omega)]
      rw [this] at k
      simp -implicitDefEqProofs [h1,c72_13,Ext.lays]
      exact k
def filR (n:Nat) (P C:Nat→Nat→Bool):Nat→Nat:=relOf n fun a b=>P a b && C a b
theorem relL_fil {n:Nat} {P C:Nat→Nat→Bool} (hn:n≤64):relL n ((prs n (relOf n P)).filter fun p=>C p.1 p.2)=filR n P C:=relL_of fun a b ha hb=>by
  rw [List.mem_filter,mem_prs hn];simp [ha,hb]
def sameC (l:List Ev6) (a b:Nat):Bool:=decide ((evA l a).kind ≠ 3) && (decide ((evA l b).kind ≠ 3) && decide ((evA l a).loc=(evA l b).loc))
theorem fil_step {n:Nat} {C:Nat→Nat→Bool} {L:List (Nat×Nat)} {j:Nat} (hj:j < L.length):(L.take (j+1)).filter (fun p=>C p.1 p.2)=if C L[j].1 L[j].2=true then (L.take j).filter (fun p=>C p.1 p.2)++[L[j]] else (L.take j).filter fun p=>C p.1 p.2:=by
  rw [List.take_succ_eq_append_getElem hj,List.filter_append]
  split
  · rename_i e;simp [e]
  · rename_i e;simp [e]
def inv135 (h:AH) (x:Exe) (n:Nat) (C:Nat→Nat→Bool) (xc:List Value) (rb o:ABlk) (pv:Value) (L:List (Nat×Nat)) (mm:Nat) (F:Fr) (hh:AH):Prop :=
  ∃ j:Nat,mm=L.length - j∧j≤L.length∧hh=h.lays [.cells xc false false,rb,.cells zrel false false,.cells (relC n (relL n ((L.take j).filter fun p=>C p.1 p.2))) false false,o] ∧
    F=[(2,.pointer (some ⟨h.next,0,none⟩)),(4,.pointer (some ⟨h.next+2,0,none⟩)),(5,.pointer (some ⟨h.next+3,0,none⟩)),(14,pv),(15,.int .i64 L.length),(16,.int .i64 j)]
theorem same_s (g:AxG G) {x:Exe} {ev rv cv:Value} {n:Nat} {P:Nat→Nat→Bool} (V:ExeV h x ev rv cv) (hn:n≤64) (hx:n≤x.evs.length) (k:R (relV n (filR n P (sameC x.evs))) h):WC G 135 [.agg #[ev,rv,cv],relV n (relOf n P)] h R:=by
  obtain ⟨ea,ec,rfl⟩:=V.evs.len
  refine WC_pure (WC_enter g.g135 rfl ?_)
  simp -implicitDefEqProofs [c135,c135_body,c135_0,c135_1,relV,relC_take]
  refine N_r g.toRelG ?_
  simp -implicitDefEqProofs
  refine New_r g.toRelG ?_
  rw [newN_of hn,relL_nil (n:=n)]
  simp -implicitDefEqProofs [c135_2,relV,relC_take,zrel_splice,zrel_length]
  refine Pairs_r g.toRelG2 hn (relOf_ok hn) fun v o sl co=>?_
  obtain ⟨pa,pc,rfl⟩:=sl.len
  simp -implicitDefEqProofs
  have hin:=fun a b=>mem_prs (n:=n) (a:=a) (b:=b) (P:=P) hn
  have hend:=relL_fil (n:=n) (P:=P) (C:=sameC x.evs) hn
  have hlen:=prs_len (n:=n) (r:=relOf n P)
  generalize prs n (relOf n P)=L at *
  refine W_loopg (inv135 h x n (sameC x.evs) [.slice ea x.evs.length ec,rv,cv] (.cells (relC n (relOf n P)) false false) o (.slice pa L.length pc) L) L.length ⟨0,rfl,by omega,rfl,rfl⟩ ?_
  rintro mm F hh ⟨j,rfl,hj,rfl,rfl⟩
  simp -implicitDefEqProofs [c135_9,c135_3]
  by_cases h1:j < L.length
  · obtain ⟨rfl,e2⟩:=sl.one (by omega)
    simp only [Value.slice.injEq] at e2
    obtain ⟨rfl,-,rfl⟩:=e2
    have w1:IntKind.i64.wrap ((j:Int)+1)=((j+1:Nat):Int):=by rw [wrap64 (by omega)];rfl
    have hm:=(hin L[j].1 L[j].2).1 (List.getElem_mem h1)
    have fs:=fil_step (n:=n) (C:=sameC x.evs) h1
    generalize ep:L[j]=p at hm fs
    obtain ⟨p1,p2⟩:=p
    simp only at hm fs
    have pr:((L.flatMap prC).drop (j * 2)).take 2=[.int .i64 p1,.int .i64 p2]:=by rw [fm_row prC_length h1,ep];rfl
    have ple:=fm_le prC_length h1
    clear sl co
    generalize L.flatMap prC=pcs at pr ple
    have q1:p1 < x.evs.length:=by omega
    have q2:p2 < x.evs.length:=by omega
    obtain ⟨b,o',sp,c0,gg,ro,rfl,hb,hg,rds⟩:=V.evs.rds Ev6.c_length (by omega)
    obtain ⟨hle,hrow,_⟩:=rds p1 q1
    obtain ⟨hle',hrow',_⟩:=rds p2 q2
    rw [← evA_of q1] at hrow
    rw [← evA_of q2] at hrow'
    simp -implicitDefEqProofs [h1,c135_4,pr,ple,splice]
    simp -implicitDefEqProofs [c135_5,c135_5b,AH.lays_lt hb,hg,hle,hle',hrow,hrow',q1,q2,Ev6.c,z6,splice]
    refine ⟨.inl (by omega),?_⟩
    generalize eQ:wO G c135_6 _ _ _=Q
    by_cases a1:(evA x.evs p1).kind=3
    · skip
      subst eQ
      rw [if_neg (by simp [sameC,eq_true a1])] at fs
      simp -implicitDefEqProofs [c135_6,eq_true a1,c135_8,w1]
      exact gcK_lays 5 (by simp) (by simp) (by simp) ⟨L.length - (j+1),by omega,j+1,rfl,by omega,by rw [fs];rfl,by simp⟩
    · by_cases a2:(evA x.evs p2).kind=3
      · skip
        subst eQ
        rw [if_neg (by simp [sameC,a1,eq_true a2])] at fs
        simp -implicitDefEqProofs [c135_6,a1,eq_true a2,c135_8,w1]
        exact gcK_lays 5 (by simp) (by simp) (by simp) ⟨L.length - (j+1),by omega,j+1,rfl,by omega,by rw [fs];rfl,by simp⟩
      · by_cases a3:(evA x.evs p1).loc=(evA x.evs p2).loc
        · skip
          subst eQ
          rw [if_pos (by simp [sameC,a1,a2,eq_true a3])] at fs
          simp -implicitDefEqProofs [c135_6,a1,a2,eq_true a3,c135_7,relC_take]
          refine Add_r g.toRelG hn (relL_ok hn) ?_
          rw [addL_of hn,← fs]
          simp -implicitDefEqProofs [relV,relC_take,relC_splice,c135_8,w1]
          exact gcK_lays 5 (by simp) (by simp) (by simp) ⟨L.length - (j+1),by omega,j+1,rfl,by omega,rfl,by simp⟩
        · skip
          subst eQ
          rw [if_neg (by simp [sameC,a1,a2,a3])] at fs
          simp -implicitDefEqProofs [c135_6,a1,a2,a3,c135_8,w1]
          exact gcK_lays 5 (by simp) (by simp) (by simp) ⟨L.length - (j+1),by omega,j+1,rfl,by omega,by rw [fs];rfl,by simp⟩
  · have e:j=L.length:=by omega
    subst e
    rw [List.take_length,hend]
    simp -implicitDefEqProofs [c135_10,relC_take,zrel_splice,zrel_length,Ext.lays]
    exact ⟨by simpa [relV] using Clean_rel (m:=h.next),k⟩
theorem uniproc_s (g:AxG G) {x:Exe} {ev rv cv:Value} {n:Nat} {P Q:Nat→Nat→Bool} (V:ExeV h x ev rv cv) (hn:n≤64) (hx:n≤x.evs.length) (k:R (.bool (acyM n (relOf n fun a b=>P a b && sameC x.evs a b || Q a b))) h):WC G 75 [.agg #[ev,rv,cv],relV n (relOf n P),relV n (relOf n Q)] h R:=by
  refine WC_pure (WC_enter g.g75 rfl ?_)
  simp -implicitDefEqProofs [c75,c75_body,c75_0,c75_1,c75_1b,relV,relC_take]
  refine same_s (P:=P) g (V.ext .lays) hn hx ?_
  simp -implicitDefEqProofs [relV,relC_take]
  refine Union_r g.toRelG2 hn hn (relOf_ok hn) (relOf_ok hn) ?_
  rw [Nat.min_self,filR,uniR_of hn]
  simp -implicitDefEqProofs [relV,relC_take]
  refine Acyclic_r g.toRelG g.g30 hn (relOf_ok hn) ?_
  simp -implicitDefEqProofs [Ext.lays]
  exact k
def outC (l:List Ev6) (a b:Nat):Bool:=decide ((evA l a).t=-1) || decide ((evA l a).t ≠ (evA l b).t)
def inv77 (h:AH) (x:Exe) (n:Nat) (C:Nat→Nat→Bool) (xc:List Value) (rb o:ABlk) (pv:Value) (L:List (Nat×Nat)) (mm:Nat) (F:Fr) (hh:AH):Prop :=
  ∃ j:Nat,mm=L.length - j∧j≤L.length∧hh=h.lays [.cells xc false false,rb,.cells zrel false false,.cells (relC n (relL n ((L.take j).filter fun p=>C p.1 p.2))) false false,o] ∧
    F=[(2,.pointer (some ⟨h.next,0,none⟩)),(4,.pointer (some ⟨h.next+2,0,none⟩)),(5,.pointer (some ⟨h.next+3,0,none⟩)),(13,pv),(14,.int .i64 L.length),(15,.int .i64 j)]
theorem outer_s (g:AxG G) {x:Exe} {ev rv cv:Value} {n:Nat} {P:Nat→Nat→Bool} (V:ExeV h x ev rv cv) (hn:n≤64) (hx:n≤x.evs.length) (k:R (relV n (filR n P (outC x.evs))) h):WC G 77 [.agg #[ev,rv,cv],relV n (relOf n P)] h R:=by
  obtain ⟨ea,ec,rfl⟩:=V.evs.len
  refine WC_pure (WC_enter g.g77 rfl ?_)
  simp -implicitDefEqProofs [c77,c77_body,c77_0,c77_1,relV,relC_take]
  refine N_r g.toRelG ?_
  simp -implicitDefEqProofs
  refine New_r g.toRelG ?_
  rw [newN_of hn,relL_nil (n:=n)]
  simp -implicitDefEqProofs [c77_2,relV,relC_take,zrel_splice,zrel_length]
  refine Pairs_r g.toRelG2 hn (relOf_ok hn) fun v o sl co=>?_
  obtain ⟨pa,pc,rfl⟩:=sl.len
  simp -implicitDefEqProofs
  have hin:=fun a b=>mem_prs (n:=n) (a:=a) (b:=b) (P:=P) hn
  have hend:=relL_fil (n:=n) (P:=P) (C:=outC x.evs) hn
  have hlen:=prs_len (n:=n) (r:=relOf n P)
  generalize prs n (relOf n P)=L at *
  refine W_loopg (inv77 h x n (outC x.evs) [.slice ea x.evs.length ec,rv,cv] (.cells (relC n (relOf n P)) false false) o (.slice pa L.length pc) L) L.length ⟨0,rfl,by omega,rfl,rfl⟩ ?_
  rintro mm F hh ⟨j,rfl,hj,rfl,rfl⟩
  simp -implicitDefEqProofs [c77_9,c77_3]
  by_cases h1:j < L.length
  · obtain ⟨rfl,e2⟩:=sl.one (by omega)
    simp only [Value.slice.injEq] at e2
    obtain ⟨rfl,-,rfl⟩:=e2
    have w1:IntKind.i64.wrap ((j:Int)+1)=((j+1:Nat):Int):=by rw [wrap64 (by omega)];rfl
    have hm:=(hin L[j].1 L[j].2).1 (List.getElem_mem h1)
    have fs:=fil_step (n:=n) (C:=outC x.evs) h1
    generalize ep:L[j]=p at hm fs
    obtain ⟨p1,p2⟩:=p
    simp only at hm fs
    have pr:((L.flatMap prC).drop (j * 2)).take 2=[.int .i64 p1,.int .i64 p2]:=by rw [fm_row prC_length h1,ep];rfl
    have ple:=fm_le prC_length h1
    clear sl co
    generalize L.flatMap prC=pcs at pr ple
    have q1:p1 < x.evs.length:=by omega
    have q2:p2 < x.evs.length:=by omega
    obtain ⟨b,o',sp,c0,gg,ro,rfl,hb,hg,rds⟩:=V.evs.rds Ev6.c_length (by omega)
    have r0:=(rds p1 q1).2.2 0 (by omega)
    have r1:=(rds p2 q2).2.2 0 (by omega)
    rw [← evA_of q1] at r0
    rw [← evA_of q2] at r1
    simp only [Ev6.c,Nat.add_zero,List.getElem?_cons_zero] at r0 r1
    simp -implicitDefEqProofs [h1,c77_4,pr,ple,splice]
    simp -implicitDefEqProofs [c77_5,AH.lays_lt hb,hg,r0,q1]
    generalize eQ:wO G c77_6 _ _ _=Q
    by_cases a1:(evA x.evs p1).t=-1
    · skip
      subst eQ
      rw [if_pos (by simp [outC,eq_true a1])] at fs
      simp -implicitDefEqProofs [c77_6,eq_true a1,c77_7,relC_take]
      refine Add_r g.toRelG hn (relL_ok hn) ?_
      rw [addL_of hn,← fs]
      simp -implicitDefEqProofs [relV,relC_take,relC_splice,c77_8,w1]
      exact gcK_lays 5 (by simp) (by simp) (by simp) ⟨L.length - (j+1),by omega,j+1,rfl,by omega,rfl,by simp⟩
    · by_cases a2:(evA x.evs p1).t=(evA x.evs p2).t
      · skip
        subst eQ
        rw [if_neg (by simp [outC,a1,eq_true a2])] at fs
        simp -implicitDefEqProofs [c77_6,a1,eq_true a2,AH.lays_lt hb,hg,r1,q2,c77_8,w1]
        exact gcK_lays 5 (by simp) (by simp) (by simp) ⟨L.length - (j+1),by omega,j+1,rfl,by omega,by rw [fs];rfl,by simp⟩
      · skip
        subst eQ
        rw [if_pos (by simp [outC,a1,a2])] at fs
        simp -implicitDefEqProofs [c77_6,a1,a2,AH.lays_lt hb,hg,r1,q2,c77_7,relC_take]
        refine Add_r g.toRelG hn (relL_ok hn) ?_
        rw [addL_of hn,← fs]
        simp -implicitDefEqProofs [relV,relC_take,relC_splice,c77_8,w1]
        exact gcK_lays 5 (by simp) (by simp) (by simp) ⟨L.length - (j+1),by omega,j+1,rfl,by omega,rfl,by simp⟩
  · have e:j=L.length:=by omega
    subst e
    rw [List.take_length,hend]
    simp -implicitDefEqProofs [c77_10,relC_take,zrel_splice,zrel_length,Ext.lays]
    exact ⟨by simpa [relV] using Clean_rel (m:=h.next),k⟩
def fenB (l:List Ev6) (a:Nat):Bool:=(evA l a).fences
def fenS (l:List Ev6) (j:Nat):Nat:=bitsN j (fenB l)
def fenT (l:List Ev6) (P:Nat→Nat→Bool) (a b:Nat):Bool:=P a b && fenB l b
def fenP (l:List Ev6) (n:Nat) (P:Nat→Nat→Bool) (a b:Nat):Bool:=(List.range n).any fun c=>fenT l P a c && P c b
def inv136a (h:AH) (l:List Ev6) (ev:Value) (B:List ABlk) (mm:Nat) (F:Fr) (hh:AH):Prop :=
  ∃ j:Nat,mm=l.length - j∧j≤l.length∧hh=h.lays B∧F=[(3,.pointer (some ⟨h.next+1,0,none⟩)),(4,.pointer (some ⟨h.next+2,0,none⟩)),(5,stW (fenS l j)),(13,ev),(14,.int .i64 l.length),(15,.int .i64 j)]
def fenQ (l:List Ev6) (n:Nat) (P:Nat→Nat→Bool) (i:Nat) (S:List Nat) (a b:Nat):Bool:=(decide (a < i) && fenT l P a b) || (decide (a=i) && S.contains b)
theorem fenQ_step {l:List Ev6} {n i j:Nat} {P:Nat→Nat→Bool} {S:List Nat} (hn:n≤64) (hj:j < S.length):addR n (relOf n (fenQ l n P i (S.take j))) i S[j]=relOf n (fenQ l n P i (S.take (j+1))):=by
  rw [addR_of hn]
  refine relOf_ext fun a b _ _=>?_
  have e:(S.take (j+1)).contains b=((S.take j).contains b || decide (b=S[j])):=by
    rw [List.take_succ_eq_append_getElem hj,Bool.eq_iff_iff]
    simp only [List.contains_iff_mem,List.mem_append,List.mem_singleton,Bool.or_eq_true,decide_eq_true_eq]
  unfold fenQ
  rw [e]
  by_cases ha:a=i
  · subst ha;simp
  · simp [ha]
def inv136b (h:AH) (l:List Ev6) (n:Nat) (P:Nat→Nat→Bool) (xc:List Value) (mm:Nat) (F:Fr) (hh:AH):Prop :=
  ∃ i:Nat,mm=n - i∧i≤n∧hh=h.lays [.cells xc false false,.cells (relC n (relOf n P)) false false,.cells zrel false false,.cells (relC n (relOf n (fenQ l n P i []))) false false] ∧
    F=[(3,.pointer (some ⟨h.next+1,0,none⟩)),(4,.pointer (some ⟨h.next+2,0,none⟩)),(5,stW (fenS l l.length)),(8,.pointer (some ⟨h.next+3,0,none⟩)),(30,.int .i64 n),(31,.int .i64 i)]
def inv136c (h:AH) (l:List Ev6) (n:Nat) (P:Nat→Nat→Bool) (xc:List Value) (i:Nat) (S:List Nat) (v:Value) (o:ABlk) (mm:Nat) (F:Fr) (hh:AH):Prop :=
  ∃ j:Nat,mm=S.length - j∧j≤S.length∧hh=h.lays [.cells xc false false,.cells (relC n (relOf n P)) false false,.cells zrel false false,.cells (relC n (relOf n (fenQ l n P i (S.take j)))) false false,o] ∧
    F=[(3,.pointer (some ⟨h.next+1,0,none⟩)),(4,.pointer (some ⟨h.next+2,0,none⟩)),(5,stW (fenS l l.length)),(8,.pointer (some ⟨h.next+3,0,none⟩)),(9,.int .i64 i),(30,.int .i64 n),(31,.int .i64 i),(39,v),(40,.int .i64 S.length),(41,.int .i64 j)]
theorem fenced_s (g:AxG G) {x:Exe} {ev rv cv:Value} {n:Nat} {P:Nat→Nat→Bool} (V:ExeV h x ev rv cv) (hn:n≤64) (hx:x.evs.length≤64) (hxn:n≤x.evs.length) (k:R (relV n (relOf n (fenP x.evs n P))) h):WC G 136 [.agg #[ev,rv,cv],relV n (relOf n P)] h R:=by
  obtain ⟨ea,ec,rfl⟩:=V.evs.len
  refine WC_pure (WC_enter g.g136 rfl ?_)
  simp -implicitDefEqProofs [c136,c136_body,c136_0,c136_1,c136_2,relV,relC_take]
  refine W_loopg (inv136a h x.evs (.slice ea x.evs.length ec) _) x.evs.length ⟨0,rfl,by omega,rfl,rfl⟩ ?_
  rintro mm F hh ⟨j,rfl,hj,rfl,rfl⟩
  simp -implicitDefEqProofs [c136_8,c136_3]
  by_cases h1:j < x.evs.length
  · obtain ⟨b,o',sp,c0,gg,ro,rfl,hb,hg,hle,hrow,hr⟩:=V.evs.rd Ev6.c_length h1
    have w1:IntKind.i64.wrap ((j:Int)+1)=((j+1:Nat):Int):=by rw [wrap64 (by omega)];rfl
    rw [← evA_of h1] at hrow
    simp -implicitDefEqProofs [h1,c136_4,AH.lays_lt hb,hg,hle,hrow,Ev6.c,z6,splice]
    simp -implicitDefEqProofs [c136_5]
    refine Fences_e (e:=evA x.evs j) g.toEvG ?_
    have bl:fenS x.evs j < 2 ^ 64:=bitsN_lt (by omega)
    have bw:withN (fenS x.evs j) (j:Int)=fenS x.evs j ||| 2 ^ j:=by unfold withN bitN;rw [if_pos (by omega)];rfl
    cases e:(evA x.evs j).fences with
    | true =>
      have e2:fenS x.evs (j+1)=withN (fenS x.evs j) (j:Int):=by rw [bw];show bitsN (j+1) _=_;unfold bitsN;rw [if_pos (by exact e)];rfl
      simp -implicitDefEqProofs [c136_6]
      refine With_spec g.toSetG bl ?_
      rw [← e2]
      simp -implicitDefEqProofs [c136_7,w1]
      exact gcK_lays 3 (by simp) (by simp) (by simp) ⟨x.evs.length - (j+1),by omega,j+1,rfl,by omega,rfl,by simp⟩
    | false =>
      have e2:fenS x.evs (j+1)=fenS x.evs j:=by show bitsN (j+1) _=_;unfold bitsN;rw [if_neg (by unfold fenB;rw [e];simp)];rfl
      simp -implicitDefEqProofs [c136_7,w1]
      exact gcK_lays 3 (by simp) (by simp) (by simp) ⟨x.evs.length - (j+1),by omega,j+1,rfl,by omega,rfl,by rw [e2];simp⟩
  · have e:j=x.evs.length:=by omega
    subst e
    simp -implicitDefEqProofs [c136_9,relC_take]
    refine N_r g.toRelG ?_
    simp -implicitDefEqProofs
    refine New_r g.toRelG ?_
    rw [newN_of hn,show (fun _=>0)=relOf n (fenQ x.evs n P 0 []) from by rw [relOf_none (n:=n)];exact relOf_ext fun a b _ _=>by simp [fenQ]]
    simp -implicitDefEqProofs [c136_10,relV,relC_take,zrel_splice,zrel_length]
    refine N_r g.toRelG ?_
    simp -implicitDefEqProofs
    refine W_loopg (inv136b h x.evs n P [.slice ea x.evs.length ec,rv,cv]) n ⟨0,rfl,by omega,rfl,rfl⟩ ?_
    rintro mm F hh ⟨i,rfl,hi,rfl,rfl⟩
    simp -implicitDefEqProofs [c136_20,c136_11]
    by_cases h2:i < n
    · have w2:IntKind.i64.wrap ((i:Int)+1)=((i+1:Nat):Int):=by rw [wrap64 (by omega)];rfl
      have bl:fenS x.evs x.evs.length < 2 ^ 64:=bitsN_lt (by omega)
      simp -implicitDefEqProofs [h2,c136_12,c136_13,relC_take]
      refine Row_r g.toRelG2 hn (relOf_ok hn) ?_
      rw [rowN_of]
      simp -implicitDefEqProofs [iand_nat (relOf_ok hn i) bl]
      have sl64:relOf n P i &&& fenS x.evs x.evs.length < 2 ^ 64:=Nat.lt_of_le_of_lt Nat.and_le_left (relOf_ok hn i)
      refine List_s g.toRelG2 sl64 fun v o sl co=>?_
      have hmem:∀ b,b < n→((setL (relOf n P i &&& fenS x.evs x.evs.length)).contains b=fenT x.evs P i b):=fun b hb=>by
        rw [Bool.eq_iff_iff,List.contains_iff_mem,mem_setL sl64,Nat.testBit_and,relOf_bit]
        unfold fenS fenT
        rw [bitsN_bit]
        simp [h2,hb,show b < x.evs.length by omega]
      have hlt:∀ b ∈ setL (relOf n P i &&& fenS x.evs x.evs.length),b < n:=fun b hb=>by
        rw [mem_setL sl64,Nat.testBit_and,relOf_bit] at hb
        simp only [Bool.and_eq_true,decide_eq_true_eq] at hb
        exact hb.1.2.1
      have hln:=setL_len (s:=relOf n P i &&& fenS x.evs x.evs.length)
      generalize setL (relOf n P i &&& fenS x.evs x.evs.length)=S at *
      obtain ⟨pa,pc,rfl⟩:=sl.len
      simp -implicitDefEqProofs
      refine W_loopg (inv136c h x.evs n P [.slice ea x.evs.length ec,rv,cv] i S (.slice pa S.length pc) o) S.length ⟨0,rfl,by omega,rfl,rfl⟩ ?_
      rintro mm F hh ⟨j,rfl,hj,rfl,rfl⟩
      simp -implicitDefEqProofs [c136_18,c136_14]
      by_cases h3:j < S.length
      · have w3:IntKind.i64.wrap ((j:Int)+1)=((j+1:Nat):Int):=by rw [wrap64 (by omega)];rfl
        obtain ⟨rfl,e2⟩:=sl.one (by omega)
        simp only [Value.slice.injEq] at e2
        obtain ⟨rfl,-,rfl⟩:=e2
        have ic:(intsC S)[j]?=some (.int .i64 (S[j]:Nat)):=by simp [intsC,h3]
        clear sl co
        generalize intsC S=pcs at ic
        simp -implicitDefEqProofs [h3,c136_15,ic,c136_16,relC_take]
        refine Add_r g.toRelG hn (relOf_ok hn) ?_
        rw [fenQ_step hn h3]
        simp -implicitDefEqProofs [relV,relC_take,relC_splice,c136_17,w3]
        exact gcK_lays 5 (by simp) (by simp) (by simp) ⟨S.length - (j+1),by omega,j+1,rfl,by omega,rfl,by simp⟩
      · have e:j=S.length:=by omega
        subst e
        have e3:relOf n (fenQ x.evs n P i (S.take S.length))=relOf n (fenQ x.evs n P (i+1) []):=relOf_ext fun a b _ hb=>by
          rw [List.take_length]
          unfold fenQ
          by_cases ha:a=i
          · subst ha;rw [hmem b hb];simp
          · have:decide (a < i+1)=decide (a < i):=by simp;omega
            simp [ha,this]
        rw [e3]
        simp -implicitDefEqProofs [c136_19,w2]
        exact gcK_lays 4 (by simp) (by simp) (by simp) ⟨n - (i+1),by omega,i+1,rfl,by omega,rfl,by simp⟩
    · have e:i=n:=by omega
      subst e
      have e3:relOf i (fenQ x.evs i P i [])=relOf i (fenT x.evs P):=relOf_ext fun a b ha hb=>by simp [fenQ,ha]
      rw [e3]
      simp -implicitDefEqProofs [c136_21,relC_take]
      refine Then_r g.toRelG2 hn hn (relOf_ok hn) (relOf_ok hn) ?_
      rw [Nat.min_self,thenR_of hn]
      simp -implicitDefEqProofs [relV,relC_take,zrel_splice,zrel_length,Ext.lays]
      exact ⟨by simpa [relV] using Clean_rel (m:=h.next),k⟩
end Go.Jq
namespace Go.Jq
variable {G:Nat→SFunc} {h:AH} {R:Value→AH→Prop}
def looseE (m:Int) (e f:Ev6):Bool:=decide (e.kind=2) && (decide (f.kind=1) || (decide (m=3) && (decide (f.kind=2) && decide (e.loc ≠ f.loc))))
def keptC (m:Int) (l:List Ev6) (H:Nat→Nat→Bool) (a b:Nat):Bool:=!looseE m (evA l a) (evA l b) || H a b
def keptP (m:Int) (l:List Ev6) (n:Nat) (P:Nat→Nat→Bool) (a b:Nat):Bool:=P a b && (decide (m=1) || keptC m l (fenP l n P) a b)
def inv76 (h:AH) (m:Int) (n:Nat) (C:Nat→Nat→Bool) (B:List ABlk) (o:ABlk) (pv:Value) (L:List (Nat×Nat)) (mm:Nat) (F:Fr) (hh:AH):Prop :=
  ∃ j:Nat,mm=L.length - j∧j≤L.length∧hh=h.lays (B++[.cells (relC n (relL n ((L.take j).filter fun p=>C p.1 p.2))) false false,o]) ∧
    F=[(0,.int .i64 m),(4,.pointer (some ⟨h.next,0,none⟩)),(6,.pointer (some ⟨h.next+2,0,none⟩)),(7,.pointer (some ⟨h.next+3,0,none⟩)),(8,.pointer (some ⟨h.next+4,0,none⟩)),(29,pv),(30,.int .i64 L.length),(31,.int .i64 j)]
set_option maxHeartbeats 1000000 in
theorem kept_s (g:AxG G) {x:Exe} {ev rv cv:Value} {n:Nat} {P:Nat→Nat→Bool} {m:Int} (hm0:m=1 ∨ m=2 ∨ m=3) (V:ExeV h x ev rv cv) (hn:n≤64) (hx64:x.evs.length≤64) (hx:n≤x.evs.length) (k:R (relV n (relOf n (keptP m x.evs n P))) h):WC G 76 [.int .i64 m,.agg #[ev,rv,cv],relV n (relOf n P)] h R:=by
  obtain ⟨ea,ec,rfl⟩:=V.evs.len
  by_cases m1:m=1
  · subst m1
    refine WC_pure (WC_enter g.g76 rfl ?_)
    simp -implicitDefEqProofs [c76,c76_body,c76_0,c76_1,c76_2,c76_3,relV,relC_take,zrel_splice,zrel_length,Ext.lays]
    have:relOf n (keptP 1 x.evs n P)=relOf n P:=relOf_ext fun a b _ _=>by simp [keptP]
    rw [this] at k
    exact ⟨by simpa [relV] using Clean_rel (m:=h.next),k⟩
  · have hend0:relOf n (keptP m x.evs n P)=filR n P (keptC m x.evs (fenP x.evs n P)):=relOf_ext fun a b _ _=>by simp [keptP,m1]
    rw [hend0] at k
    have go:(∀ R',W G (.seq (.reg [0,4,5,6,7] c76_7) (.seq (.reg [0,4,5,6,7,8] c76_8) (.seq (.seq (.reg [0,4,6,7,8,29,30,31] c76_9) (.block 1 (.loop [0,4,6,7,8,29,30,31] c76_17))) (.seq (.reg [6] c76_18) .ret))))
        [(0,.int .i64 m),(4,.pointer (some ⟨h.next,0,none⟩)),(5,.pointer (some ⟨h.next+1,0,none⟩)),(6,.pointer (some ⟨h.next+2,0,none⟩))] (h.lays [.cells [.slice ea x.evs.length ec,rv,cv] false false,.cells (relC n (relOf n P)) false false,.cells zrel false false]) (retK [.cellN 6 65] fun v h1=>Ext h h1∧Clean h.next v∧R v h)
        = R'→R'):=by
      rintro _ rfl
      simp -implicitDefEqProofs [c76_7,relC_take]
      refine fenced_s g (V.ext .lays) hn hx64 hx ?_
      simp -implicitDefEqProofs [c76_8,relV,relC_take,zrel_splice,zrel_length]
      refine N_r g.toRelG ?_
      simp -implicitDefEqProofs
      refine New_r g.toRelG ?_
      rw [newN_of hn,relL_nil (n:=n)]
      simp -implicitDefEqProofs [c76_9,relV,relC_take,zrel_splice,zrel_length]
      refine Pairs_r g.toRelG2 hn (relOf_ok hn) fun v o sl co=>?_
      obtain ⟨pa,pc,rfl⟩:=sl.len
      simp -implicitDefEqProofs
      have hin:=fun a b=>mem_prs (n:=n) (a:=a) (b:=b) (P:=P) hn
      have hend:=relL_fil (n:=n) (P:=P) (C:=keptC m x.evs (fenP x.evs n P)) hn
      have hlen:=prs_len (n:=n) (r:=relOf n P)
      generalize prs n (relOf n P)=L at *
      refine W_loopg (inv76 h m n (keptC m x.evs (fenP x.evs n P)) [.cells [.slice ea x.evs.length ec,rv,cv] false false,.cells (relC n (relOf n P)) false false,.cells zrel false false,.cells (relC n (relOf n (fenP x.evs n P))) false false] o (.slice pa L.length pc) L) L.length ⟨0,rfl,by omega,rfl,rfl⟩ ?_
      rintro mm F hh ⟨j,rfl,hj,rfl,rfl⟩
      simp -implicitDefEqProofs [c76_17,c76_10]
      by_cases h1:j < L.length
      · obtain ⟨rfl,e2⟩:=sl.one (by omega)
        simp only [Value.slice.injEq] at e2
        obtain ⟨rfl,-,rfl⟩:=e2
        have w1:IntKind.i64.wrap ((j:Int)+1)=((j+1:Nat):Int):=by rw [wrap64 (by omega)];rfl
        have hm:=(hin L[j].1 L[j].2).1 (List.getElem_mem h1)
        have fs:=fil_step (n:=n) (C:=keptC m x.evs (fenP x.evs n P)) h1
        generalize ep:L[j]=p at hm fs
        obtain ⟨p1,p2⟩:=p
        simp only at hm fs
        have pr:((L.flatMap prC).drop (j * 2)).take 2=[.int .i64 p1,.int .i64 p2]:=by rw [fm_row prC_length h1,ep];rfl
        have ple:=fm_le prC_length h1
        clear sl co
        generalize L.flatMap prC=pcs at pr ple
        have q1:p1 < x.evs.length:=by omega
        have q2:p2 < x.evs.length:=by omega
        obtain ⟨b,o',sp,c0,gg,ro,rfl,hb,hg,rds⟩:=V.evs.rds Ev6.c_length (by omega)
        obtain ⟨hle,hrow,_⟩:=rds p1 q1
        obtain ⟨hle',hrow',_⟩:=rds p2 q2
        rw [← evA_of q1] at hrow
        rw [← evA_of q2] at hrow'
        simp -implicitDefEqProofs [h1,c76_11,pr,ple,splice]
        simp -implicitDefEqProofs [c76_12,c76_12b,AH.lays_lt hb,hg,hle,hle',hrow,hrow',q1,q2,Ev6.c,z6,splice]
        refine ⟨.inl (by omega),?_⟩
        generalize eQ:wO G c76_13 _ _ _=Q
        by_cases a1:(evA x.evs p1).kind=2
        · by_cases a2:(evA x.evs p2).kind=1
          · skip
            subst eQ
            have e0:keptC m x.evs (fenP x.evs n P) p1 p2=fenP x.evs n P p1 p2:=by simp [keptC,looseE,eq_true a1,eq_true a2]
            rw [e0] at fs
            simp -implicitDefEqProofs [c76_13,eq_true a1,eq_true a2,c76_14,relC_take]
            refine Has_r g.toRelG hn (relOf_ok hn) ?_
            rw [relB_of hn,decide_eq_true hm.1,decide_eq_true hm.2.1,Bool.true_and,Bool.true_and]
            cases e:fenP x.evs n P p1 p2 with
            | true =>
              rw [e,if_pos rfl] at fs
              simp -implicitDefEqProofs [c76_15,relC_take]
              refine Add_r g.toRelG hn (relL_ok hn) ?_
              rw [addL_of hn,← fs]
              simp -implicitDefEqProofs [relV,relC_take,relC_splice,c76_16,w1]
              exact gcK_lays 6 (by simp) (by simp) (by simp) ⟨L.length - (j+1),by omega,j+1,rfl,by omega,rfl,by simp⟩
            | false =>
              rw [e,if_neg (by simp)] at fs
              simp -implicitDefEqProofs [c76_16,w1]
              exact gcK_lays 6 (by simp) (by simp) (by simp) ⟨L.length - (j+1),by omega,j+1,rfl,by omega,by rw [fs];rfl,by simp⟩
          · by_cases a3:m=3
            · by_cases a4:(evA x.evs p2).kind=2
              · by_cases a5:(evA x.evs p1).loc=(evA x.evs p2).loc
                · skip
                  subst eQ
                  rw [if_pos (by simp [keptC,looseE,eq_true a1,a2,eq_true a3,eq_true a4,eq_true a5])] at fs
                  simp -implicitDefEqProofs [c76_13,eq_true a1,a2,eq_true a3,eq_true a4,eq_true a5,c76_14,c76_15,relC_take]
                  refine Add_r g.toRelG hn (relL_ok hn) ?_
                  rw [addL_of hn,← fs]
                  simp -implicitDefEqProofs [relV,relC_take,relC_splice,c76_16,w1]
                  exact gcK_lays 6 (by simp) (by simp) (by simp) ⟨L.length - (j+1),by omega,j+1,rfl,by omega,rfl,by simp⟩
                · skip
                  subst eQ
                  have e0:keptC m x.evs (fenP x.evs n P) p1 p2=fenP x.evs n P p1 p2:=by simp [keptC,looseE,eq_true a1,a2,eq_true a3,eq_true a4,a5]
                  rw [e0] at fs
                  simp -implicitDefEqProofs [c76_13,eq_true a1,a2,eq_true a3,eq_true a4,a5,c76_14,relC_take]
                  refine Has_r g.toRelG hn (relOf_ok hn) ?_
                  rw [relB_of hn,decide_eq_true hm.1,decide_eq_true hm.2.1,Bool.true_and,Bool.true_and]
                  cases e:fenP x.evs n P p1 p2 with
                  | true =>
                    rw [e,if_pos rfl] at fs
                    simp -implicitDefEqProofs [c76_15,relC_take]
                    refine Add_r g.toRelG hn (relL_ok hn) ?_
                    rw [addL_of hn,← fs]
                    simp -implicitDefEqProofs [relV,relC_take,relC_splice,c76_16,w1]
                    exact gcK_lays 6 (by simp) (by simp) (by simp) ⟨L.length - (j+1),by omega,j+1,rfl,by omega,rfl,by simp⟩
                  | false =>
                    rw [e,if_neg (by simp)] at fs
                    simp -implicitDefEqProofs [c76_16,w1]
                    exact gcK_lays 6 (by simp) (by simp) (by simp) ⟨L.length - (j+1),by omega,j+1,rfl,by omega,by rw [fs];rfl,by simp⟩
              · skip
                subst eQ
                rw [if_pos (by simp [keptC,looseE,eq_true a1,a2,eq_true a3,a4])] at fs
                simp -implicitDefEqProofs [c76_13,eq_true a1,a2,eq_true a3,a4,c76_14,c76_15,relC_take]
                refine Add_r g.toRelG hn (relL_ok hn) ?_
                rw [addL_of hn,← fs]
                simp -implicitDefEqProofs [relV,relC_take,relC_splice,c76_16,w1]
                exact gcK_lays 6 (by simp) (by simp) (by simp) ⟨L.length - (j+1),by omega,j+1,rfl,by omega,rfl,by simp⟩
            · skip
              subst eQ
              rw [if_pos (by simp [keptC,looseE,eq_true a1,a2,a3])] at fs
              simp -implicitDefEqProofs [c76_13,eq_true a1,a2,a3,c76_14,c76_15,relC_take]
              refine Add_r g.toRelG hn (relL_ok hn) ?_
              rw [addL_of hn,← fs]
              simp -implicitDefEqProofs [relV,relC_take,relC_splice,c76_16,w1]
              exact gcK_lays 6 (by simp) (by simp) (by simp) ⟨L.length - (j+1),by omega,j+1,rfl,by omega,rfl,by simp⟩
        · skip
          subst eQ
          rw [if_pos (by simp [keptC,looseE,a1])] at fs
          simp -implicitDefEqProofs [c76_13,a1,c76_14,c76_15,relC_take]
          refine Add_r g.toRelG hn (relL_ok hn) ?_
          rw [addL_of hn,← fs]
          simp -implicitDefEqProofs [relV,relC_take,relC_splice,c76_16,w1]
          exact gcK_lays 6 (by simp) (by simp) (by simp) ⟨L.length - (j+1),by omega,j+1,rfl,by omega,rfl,by simp⟩
      · have e:j=L.length:=by omega
        subst e
        rw [List.take_length,hend]
        simp -implicitDefEqProofs [c76_18,relC_take,zrel_splice,zrel_length,Ext.lays]
        exact ⟨by simpa [relV] using Clean_rel (m:=h.next),k⟩
    have go:=go _ rfl
    simp -implicitDefEqProofs only [W_seq,W_reg] at go
    refine WC_pure (WC_enter g.g76 rfl ?_)
    by_cases m2:m=2
    · simp -implicitDefEqProofs [c76,c76_body,c76_0,c76_1,c76_2,c76_4,relV,relC_take,m1,m2]
      subst m2
      exact go
    · have m3:m=3:=by omega
      simp -implicitDefEqProofs [c76,c76_body,c76_0,c76_1,c76_2,c76_4,c76_5,relV,relC_take,m1,m2,m3]
      subst m3
      exact go
end Go.Jq
namespace Go.Jq
variable {G:Nat→SFunc} {h:AH} {R:Value→AH→Prop}
def rowJ (l:List Int) (i:Nat):List (Nat×Nat):=(l.drop (i+1)).map fun b=>((intA l i).toNat,b.toNat)
def rowL (l:List Int):List (Nat×Nat):=(List.range l.length).flatMap (rowJ l)
def coL (x:Exe):List (Nat×Nat):=x.co.flatMap rowL
def rfJ (x:Exe) (i:Nat):List (Nat×Nat):=if intA x.rf i < 0 then [] else [((intA x.rf i).toNat,i)]
def rfL (x:Exe):List (Nat×Nat):=(List.range x.rf.length).flatMap (rfJ x)
def frK (i:Nat) (l:List Int):List (Nat×Nat):=(l.filter fun b=>decide (b ≠ (i:Int))).map fun b=>(i,b.toNat)
def frJ (x:Exe) (i:Nat):List (Nat×Nat):=if intA x.rf i < 0 then [] else frK i (behindM x (intA x.rf i))
def frL (x:Exe):List (Nat×Nat):=(List.range x.rf.length).flatMap (frJ x)
def ownB (l:List Ev6) (i:Nat):Bool:=decide ((evA l i).t ≠ -1)
def poX (l:List Ev6) (a b:Nat):Bool:=poP l a b && (ownB l a && ownB l b)
theorem flatMap_succ {α:Type} {f:Nat→List α} {j:Nat}:(List.range (j+1)).flatMap f=(List.range j).flatMap f++f j:=by rw [List.range_succ,List.flatMap_append];simp
def frB (h:AH) (r:Fr):Fr:=(1,.pointer (some ⟨h.next,0,none⟩))::(2,.pointer (some ⟨h.next+1,0,none⟩))::(3,.pointer (some ⟨h.next+2,0,none⟩))::(4,.pointer (some ⟨h.next+3,0,none⟩))::(5,.pointer (some ⟨h.next+4,0,none⟩))::r
def laB (xc:List Value) (n:Nat) (po rf co fr:Nat→Nat) (r:List ABlk):List ABlk:=.cells xc false false::.cells (relC n po) false false::.cells (relC n rf) false false::.cells (relC n co) false false::.cells (relC n fr) false false::r
def inv73a (h:AH) (x:Exe) (ev:Value) (B:List ABlk) (mm:Nat) (F:Fr) (hh:AH):Prop :=
  ∃ j:Nat,mm=x.evs.length - j∧j≤x.evs.length∧hh=h.lays B∧F=frB h [(7,stW (bitsN j (ownB x.evs))),(33,ev),(34,.int .i64 x.evs.length),(35,.int .i64 j)]
def inv73b (h:AH) (x:Exe) (n:Nat) (po:Nat→Nat) (xc:List Value) (cv:Value) (mm:Nat) (F:Fr) (hh:AH):Prop :=
  ∃ j:Nat,mm=x.co.length - j∧j≤x.co.length∧hh=h.lays (laB xc n po (fun _=>0) (relL n ((x.co.take j).flatMap rowL)) (fun _=>0) [])∧F=frB h [(53,cv),(54,.int .i64 x.co.length),(55,.int .i64 j)]
def inv73c (h:AH) (x:Exe) (n:Nat) (po:Nat→Nat) (xc:List Value) (cv u:Value) (j:Nat) (l:List Int) (A:List (Nat×Nat)) (mm:Nat) (F:Fr) (hh:AH):Prop :=
  ∃ i:Nat,mm=l.length - i∧i≤l.length∧hh=h.lays (laB xc n po (fun _=>0) (relL n (A++(List.range i).flatMap (rowJ l))) (fun _=>0) []) ∧
    F=frB h [(11,u),(53,cv),(54,.int .i64 x.co.length),(55,.int .i64 j),(59,u),(60,.int .i64 l.length),(61,.int .i64 i)]
def inv73d (h:AH) (x:Exe) (n:Nat) (po:Nat→Nat) (xc:List Value) (cv u v:Value) (j:Nat) (l:List Int) (i:Nat) (a:Int) (A:List (Nat×Nat)) (S:List Int) (mm:Nat) (F:Fr) (hh:AH):Prop :=
  ∃ k:Nat,mm=S.length - k∧k≤S.length∧hh=h.lays (laB xc n po (fun _=>0) (relL n (A++(S.take k).map fun b=>(a.toNat,b.toNat))) (fun _=>0) []) ∧
    F=frB h [(11,u),(13,.int .i64 a),(53,cv),(54,.int .i64 x.co.length),(55,.int .i64 j),(59,u),(60,.int .i64 l.length),(61,.int .i64 i),(69,v),(70,.int .i64 S.length),(71,.int .i64 k)]
def inv73e (h:AH) (x:Exe) (n:Nat) (po co:Nat→Nat) (xc:List Value) (rv:Value) (mm:Nat) (F:Fr) (hh:AH):Prop :=
  ∃ i:Nat,mm=x.rf.length - i∧i≤x.rf.length∧hh=h.lays (laB xc n po (relL n ((List.range i).flatMap (rfJ x))) co (relL n ((List.range i).flatMap (frJ x))) []) ∧
    F=frB h [(83,rv),(84,.int .i64 x.rf.length),(85,.int .i64 i)]
def inv73f (h:AH) (x:Exe) (n:Nat) (po rf co:Nat→Nat) (xc:List Value) (rv v:Value) (i:Nat) (A:List (Nat×Nat)) (S:List Int) (mm:Nat) (F:Fr) (hh:AH):Prop :=
  ∃ k:Nat,mm=S.length - k∧k≤S.length∧hh=h.lays (laB xc n po rf co (relL n (A++frK i (S.take k))) []) ∧
    F=frB h [(16,.int .i64 i),(83,rv),(84,.int .i64 x.rf.length),(85,.int .i64 i),(98,v),(99,.int .i64 S.length),(100,.int .i64 k)]
theorem addI_of {n:Nat} {l:List (Nat×Nat)} {a b:Int} (hn:n≤64) (ha:0≤a) (hb:0≤b):addR n (relL n l) a b=relL n (l++[(a.toNat,b.toNat)]):=by
  obtain ⟨p,rfl⟩:=Int.eq_ofNat_of_zero_le ha
  obtain ⟨q,rfl⟩:=Int.eq_ofNat_of_zero_le hb
  exact addL_of hn
theorem behind_mem {x:Exe} {w b:Int} (h:b ∈ behindM x w):∃ l ∈ x.co,b ∈ l:=by
  unfold behindM at h
  split at h
  · rename_i l e
    exact ⟨l,List.mem_of_find?_eq_some e,List.mem_of_mem_drop h⟩
  · simp at h
theorem behind_len {x:Exe} {w:Int} (o:ExeOk x):(behindM x w).length≤9223372036854775806:=by
  unfold behindM
  split
  · rename_i l e
    have:=o.rows l (List.mem_of_find?_eq_some e)
    rw [List.length_drop];omega
  · simp
set_option maxHeartbeats 2000000 in
theorem Rels_s (g:AxG G) {x:Exe} {ev rv cv:Value} (V:ExeV h x ev rv cv) (o:ExeOk x) (so:soundM x=true)
    (k:R (.tuple #[relV x.evs.length (relOf x.evs.length (poX x.evs)),relV x.evs.length (relL x.evs.length (rfL x)),relV x.evs.length (relL x.evs.length (coL x)),relV x.evs.length (relL x.evs.length (frL x))]) h):WC G 73 [.agg #[ev,rv,cv]] h R:=by
  obtain ⟨ea,ec,rfl⟩:=V.evs.len
  obtain ⟨ra,rc,rfl⟩:=V.rf.len
  obtain ⟨ca,cc,rfl⟩:=V.co.len
  obtain ⟨hn,hrf,hrb,hcb⟩:=soundM_of so
  refine WC_pure (WC_enter g.g73 rfl ?_)
  simp -implicitDefEqProofs [c73,c73_body,c73_0,c73_1]
  refine sound_s g (V.ext .lays) o.evs o.co o.rows ?_
  rw [so]
  simp -implicitDefEqProofs [c73_2,c73_3,c73_4]
  refine New_r g.toRelG ?_
  simp -implicitDefEqProofs
  refine New_r g.toRelG ?_
  simp -implicitDefEqProofs
  refine New_r g.toRelG ?_
  rw [newN_of hn]
  simp -implicitDefEqProofs [c73_5,relV,relC_take,zrel_splice,zrel_length]
  generalize hB:[ABlk.cells [Value.slice ea x.evs.length ec,Value.slice ra x.rf.length rc,Value.slice ca x.co.length cc] false false,ABlk.cells zrel false false,ABlk.cells (relC x.evs.length fun x=>0) false false,ABlk.cells (relC x.evs.length fun x=>0) false false,ABlk.cells (relC x.evs.length fun x=>0) false false]=B
  refine W_loopg (inv73a h x (.slice ea x.evs.length ec) B) x.evs.length ⟨0,rfl,by omega,rfl,rfl⟩ ?_
  rintro mm F hh ⟨j,rfl,hj,rfl,rfl⟩
  subst hB
  simp -implicitDefEqProofs [c73_11,c73_6,frB]
  by_cases h1:j < x.evs.length
  · obtain ⟨b,o',sp,c0,gg,ro,rfl,hb,hg,hle,hrow,hr⟩:=V.evs.rd Ev6.c_length h1
    have w1:IntKind.i64.wrap ((j:Int)+1)=((j+1:Nat):Int):=by rw [wrap64 (by omega)];rfl
    rw [← evA_of h1] at hrow
    have bl:bitsN j (ownB x.evs) < 2 ^ 64:=bitsN_lt (by omega)
    have bw:withN (bitsN j (ownB x.evs)) (j:Int)=bitsN j (ownB x.evs) ||| 2 ^ j:=by unfold withN bitN;rw [if_pos (by omega)];rfl
    simp -implicitDefEqProofs [h1,c73_7,AH.lays_lt hb,hg,hle,hrow,Ev6.c,z6,splice]
    generalize eQ:wO G c73_8 _ _ _=Q
    by_cases e:(evA x.evs j).t=-1
    · have e2:bitsN (j+1) (ownB x.evs)=bitsN j (ownB x.evs):=by show (if _ then _ else _)=_;rw [if_neg (by simp [ownB,e])]
      subst eQ
      simp -implicitDefEqProofs [c73_8,eq_true e,c73_10,w1]
      exact gcK_lays 5 (by simp) (by simp) (by simp) ⟨x.evs.length - (j+1),by omega,j+1,rfl,by omega,rfl,by rw [e2];simp [frB]⟩
    · have e2:bitsN (j+1) (ownB x.evs)=withN (bitsN j (ownB x.evs)) (j:Int):=by rw [bw];show (if _ then _ else _)=_;rw [if_pos (by simp [ownB,e])]
      subst eQ
      simp -implicitDefEqProofs [c73_8,e,c73_9]
      refine With_spec g.toSetG bl ?_
      rw [← e2]
      simp -implicitDefEqProofs [c73_10,w1]
      exact gcK_lays 5 (by simp) (by simp) (by simp) ⟨x.evs.length - (j+1),by omega,j+1,rfl,by omega,rfl,by simp [frB]⟩
  · have e:j=x.evs.length:=by omega
    subst e
    have bl:bitsN x.evs.length (ownB x.evs) < 2 ^ 64:=bitsN_lt hn
    simp -implicitDefEqProofs [c73_12]
    refine PO_e g.toEvG (V.evs.ext .lays) ?_
    rw [show poN x.evs=x.evs.length from if_neg (by omega)]
    simp -implicitDefEqProofs
    refine Keep_r g.toRelG2 hn (relOf_ok hn) bl ?_
    rw [keepR_of,show (relOf x.evs.length fun a b=>poP x.evs a b && ((bitsN x.evs.length (ownB x.evs)).testBit a && (bitsN x.evs.length (ownB x.evs)).testBit b))=relOf x.evs.length (poX x.evs) from relOf_ext fun a b ha hb=>by rw [bitsN_bit,bitsN_bit];simp [poX,ha,hb]]
    simp -implicitDefEqProofs [relV,relC_take,zrel_splice,zrel_length,c73_13]
    generalize relOf x.evs.length (poX x.evs)=po at *
    generalize hen:x.evs.length=n at *
    refine W_loop (inv73b h x n po [.slice ea n ec,.slice ra x.rf.length rc,.slice ca x.co.length cc] (.slice ca x.co.length cc)) x.co.length ⟨0,rfl,by omega,by rw [List.take_zero,List.flatMap_nil,← relL_nil];rfl,rfl⟩ ?_
    rintro mm F hh ⟨j,rfl,hj,rfl,rfl⟩
    simp -implicitDefEqProofs [c73_28,c73_14,frB,laB]
    by_cases h2:j < x.co.length
    · obtain ⟨b,o',sp,c0,gg,ro,u,rfl,hb,hg,r0,su⟩:=V.co.at h2
      have w2:IntKind.i64.wrap ((j:Int)+1)=((j+1:Nat):Int):=by rw [wrap64 (by have:=o.co;omega)];rfl
      have hrow:=o.rows _ (List.getElem_mem h2)
      have hcb':=hcb _ (List.getElem_mem h2)
      have hA:(x.co.take (j+1)).flatMap rowL=(x.co.take j).flatMap rowL++rowL x.co[j]:=by rw [List.take_succ_eq_append_getElem h2,List.flatMap_append];simp
      generalize x.co[j]=l at *
      generalize (x.co.take j).flatMap rowL=A at *
      obtain ⟨ua,uc,rfl⟩:=su.len
      simp -implicitDefEqProofs [h2,c73_15,AH.lays_lt hb,hg,r0,c73_16]
      refine W_loop (inv73c h x n po [.slice ea n ec,.slice ra x.rf.length rc,.slice (some ⟨b,o',sp⟩) x.co.length cc] (.slice (some ⟨b,o',sp⟩) x.co.length cc) (.slice ua l.length uc) j l A) l.length ⟨0,rfl,by omega,by simp [laB],rfl⟩ ?_
      rintro mm F hh ⟨i,rfl,hi,rfl,rfl⟩
      simp -implicitDefEqProofs [c73_26,c73_17,frB,laB]
      by_cases h3:i < l.length
      · obtain ⟨b2,o2,sp2,c2,g2,ro2,rfl,hb2,hg2,hle2,hrow2,hr2⟩:=su.view.rd intC_length h3
        have w3:IntKind.i64.wrap ((i:Int)+1)=((i+1:Nat):Int):=by rw [wrap64 (by omega)];rfl
        have r2:=hr2 0 (by omega)
        rw [← intA_of h3] at r2
        simp only [intC,Nat.add_zero,List.getElem?_cons_zero,Nat.mul_one] at r2
        have ha0:=(hcb' (intA l i) (by rw [intA_of h3];exact List.getElem_mem h3)).1
        obtain ⟨v',e1,s1,b1⟩:=su.drop (i:=i+1) (by omega) (by omega)
        rw [show ((i+1:Nat):Int)=(i:Int)+1 from rfl] at e1
        have s2:SlX 1 h (l.drop (i+1)).length ((l.drop (i+1)).flatMap intC) v':=by
          have:=fm_drop intC_length l (i+1)
          rw [Nat.mul_one] at this s1
          rw [List.length_drop,← this]
          exact s1
        have hB:(List.range (i+1)).flatMap (rowJ l)=(List.range i).flatMap (rowJ l)++(l.drop (i+1)).map fun b=>((intA l i).toNat,b.toNat):=flatMap_succ
        have hSb:∀ y ∈ l.drop (i+1),0≤y:=fun y hy=>(hcb' y (List.mem_of_mem_drop hy)).1
        have hSl:(l.drop (i+1)).length≤9223372036854775806:=by rw [List.length_drop];omega
        generalize (List.range i).flatMap (rowJ l)=B0 at *
        generalize l.drop (i+1)=S at *
        generalize intA l i=a at *
        obtain ⟨va,vc,rfl⟩:=s2.len
        simp -implicitDefEqProofs [h3,c73_18,AH.lays_lt hb2,hg2,r2,c73_19,w3,e1]
        refine W_loop (inv73d h x n po [.slice ea n ec,.slice ra x.rf.length rc,.slice (some ⟨b,o',sp⟩) x.co.length cc] (.slice (some ⟨b,o',sp⟩) x.co.length cc) (.slice (some ⟨b2,o2,sp2⟩) l.length uc) (.slice va S.length vc) j l i a (A++B0) S) S.length ⟨0,rfl,by omega,by simp [laB],rfl⟩ ?_
        rintro mm F hh ⟨k,rfl,hk,rfl,rfl⟩
        simp -implicitDefEqProofs [c73_24,c73_20,frB,laB]
        by_cases h4:k < S.length
        · obtain ⟨b3,o3,sp3,c3,g3,ro3,rfl,hb3,hg3,hle3,hrow3,hr3⟩:=s2.view.rd intC_length h4
          have w4:IntKind.i64.wrap ((k:Int)+1)=((k+1:Nat):Int):=by rw [wrap64 (by omega)];rfl
          have r3:=hr3 0 (by omega)
          simp only [intC,Nat.add_zero,List.getElem?_cons_zero,Nat.mul_one] at r3
          have hb0:=hSb _ (List.getElem_mem h4)
          have hC:(S.take (k+1)).map (fun b=>(a.toNat,b.toNat))=(S.take k).map (fun b=>(a.toNat,b.toNat))++[(a.toNat,S[k].toNat)]:=by rw [List.take_succ_eq_append_getElem h4,List.map_append];rfl
          simp -implicitDefEqProofs [h4,c73_21,AH.lays_lt hb3,hg3,r3,c73_22,relC_take]
          refine Add_r g.toRelG hn (relL_ok hn) ?_
          rw [addI_of hn ha0 hb0]
          simp -implicitDefEqProofs [relV,relC_take,relC_splice,c73_23,w4]
          exact ⟨S.length - (k+1),by omega,k+1,rfl,by omega,by rw [hC];simp [laB],by simp [frB]⟩
        · have e:k=S.length:=by omega
          subst e
          simp -implicitDefEqProofs [c73_25,w3]
          exact ⟨l.length - (i+1),by omega,i+1,rfl,by omega,by rw [hB];simp [laB,List.take_of_length_le],by simp [frB]⟩
      · have e:i=l.length:=by omega
        subst e
        simp -implicitDefEqProofs [c73_27,w2]
        exact ⟨x.co.length - (j+1),by omega,j+1,rfl,by omega,by rw [hA];simp [laB,rowL],by simp [frB]⟩
    · have e:j=x.co.length:=by omega
      subst e
      have eco:(x.co.take x.co.length).flatMap rowL=coL x:=by rw [List.take_length];rfl
      simp -implicitDefEqProofs [c73_29]
      rw [show List.flatMap rowL x.co=coL x from rfl]
      generalize relL n (coL x)=co at *
      refine W_loop (inv73e h x n po co [.slice ea n ec,.slice ra x.rf.length rc,.slice ca x.co.length cc] (.slice ra x.rf.length rc)) x.rf.length ⟨0,rfl,by omega,by rw [List.range_zero,List.flatMap_nil,List.flatMap_nil,← relL_nil];rfl,rfl⟩ ?_
      clear h2
      rintro mm F hh ⟨i,rfl,hi,rfl,rfl⟩
      simp -implicitDefEqProofs [c73_42,c73_30,frB,laB]
      by_cases h3:i < x.rf.length
      · obtain ⟨b,o',sp,c0,gg,ro,rfl,hb,hg,hle,hrow,hr⟩:=V.rf.rd intC_length h3
        have w3:IntKind.i64.wrap ((i:Int)+1)=((i+1:Nat):Int):=by rw [wrap64 (by omega)];rfl
        have r0:=hr 0 (by omega)
        rw [← intA_of h3] at r0
        simp only [intC,Nat.add_zero,List.getElem?_cons_zero,Nat.mul_one] at r0
        have e1:(List.range (i+1)).flatMap (rfJ x)=(List.range i).flatMap (rfJ x)++rfJ x i:=flatMap_succ
        have e2:(List.range (i+1)).flatMap (frJ x)=(List.range i).flatMap (frJ x)++frJ x i:=flatMap_succ
        have j1:rfJ x i=if intA x.rf i < 0 then [] else [((intA x.rf i).toNat,i)]:=rfl
        have j2:frJ x i=if intA x.rf i < 0 then [] else frK i (behindM x (intA x.rf i)):=rfl
        rw [j1] at e1
        rw [j2] at e2
        clear j1 j2
        have hbb:∀ y ∈ behindM x (intA x.rf i),0≤y:=fun y hy=>by
          obtain ⟨l,hl,hy⟩:=behind_mem hy
          exact (hcb l hl y hy).1
        have hbl:=behind_len (w:=intA x.rf i) o
        have bs:=fun R=>behind_x (G:=G) (h0:=h) (h:=h.lays (laB [.slice ea n ec,.slice (some ⟨b,o',sp⟩) x.rf.length rc,.slice ca x.co.length cc] n po (relL n ((List.range i).flatMap (rfJ x)++[((intA x.rf i).toNat,i)])) co (relL n ((List.range i).flatMap (frJ x))) [])) (R:=R) (x:=x) (w:=intA x.rf i) g .lays V o.co o.rows
        generalize behindM x (intA x.rf i)=S at *
        simp -implicitDefEqProofs [h3,c73_31,AH.lays_lt hb,hg,r0]
        generalize eQ:wO G c73_32 _ _ _=Q
        by_cases h4:intA x.rf i < 0
        · rw [if_pos h4,List.append_nil] at e1 e2
          subst eQ
          simp -implicitDefEqProofs [c73_32,h4,c73_41,w3]
          exact ⟨x.rf.length - (i+1),by omega,i+1,rfl,by omega,by rw [e1,e2];simp [laB],by simp [frB]⟩
        · rw [if_neg h4] at e1 e2
          subst eQ
          simp -implicitDefEqProofs [c73_32,h4,c73_33,relC_take]
          refine Add_r g.toRelG hn (relL_ok hn) ?_
          rw [addI_of hn (by omega) (by omega),Int.toNat_natCast]
          simp -implicitDefEqProofs [relV,relC_take,relC_splice,c73_34]
          refine bs _ fun v sv=>?_
          obtain ⟨va,vc,rfl⟩:=sv.len
          skip
          rw [← e1]
          simp -implicitDefEqProofs [laB]
          generalize erf:relL n ((List.range (i+1)).flatMap (rfJ x))=rf
          generalize (List.range i).flatMap (frJ x)=A at *
          refine W_loop (inv73f h x n po rf co [.slice ea n ec,.slice (some ⟨b,o',sp⟩) x.rf.length rc,.slice ca x.co.length cc] (.slice (some ⟨b,o',sp⟩) x.rf.length rc) (.slice va S.length vc) i A S) S.length ⟨0,rfl,by omega,by simp [laB,frK],rfl⟩ ?_
          rintro mm F hh ⟨k,rfl,hk,rfl,rfl⟩
          simp -implicitDefEqProofs [c73_40,c73_35,frB,laB]
          by_cases h5:k < S.length
          · obtain ⟨b3,o3,sp3,c3,g3,ro3,rfl,hb3,hg3,hle3,hrow3,hr3⟩:=sv.view.rd intC_length h5
            have w5:IntKind.i64.wrap ((k:Int)+1)=((k+1:Nat):Int):=by rw [wrap64 (by omega)];rfl
            have r3:=hr3 0 (by omega)
            simp only [intC,Nat.add_zero,List.getElem?_cons_zero,Nat.mul_one] at r3
            have hb0:=hbb _ (List.getElem_mem h5)
            have hC:frK i (S.take (k+1))=if S[k]=(i:Int) then frK i (S.take k) else frK i (S.take k)++[(i,S[k].toNat)]:=by
              unfold frK
              rw [List.take_succ_eq_append_getElem h5,List.filter_append]
              split
              · rename_i e;simp [e]
              · rename_i e;simp [e]
            simp -implicitDefEqProofs [h5,c73_36,AH.lays_lt hb3,hg3,r3]
            generalize eQ:wO G c73_37 _ _ _=Q
            by_cases h6:S[k]=(i:Int)
            · rw [if_pos h6] at hC
              subst eQ
              simp -implicitDefEqProofs [c73_37,eq_true h6,c73_39,w5]
              exact ⟨S.length - (k+1),by omega,k+1,rfl,by omega,by rw [hC];simp [laB],by simp [frB]⟩
            · rw [if_neg h6] at hC
              subst eQ
              simp -implicitDefEqProofs [c73_37,h6,c73_38,relC_take]
              refine Add_r g.toRelG hn (relL_ok hn) ?_
              rw [addI_of hn (by omega) hb0,Int.toNat_natCast]
              simp -implicitDefEqProofs [relV,relC_take,relC_splice,c73_39,w5]
              exact ⟨S.length - (k+1),by omega,k+1,rfl,by omega,by rw [hC];simp [laB],by simp [frB]⟩
          · have e:k=S.length:=by omega
            subst e
            simp -implicitDefEqProofs [c73_41,w3]
            exact ⟨x.rf.length - (i+1),by omega,i+1,rfl,by omega,by rw [e2,erf];simp [laB],by simp [frB]⟩
      · have e:i=x.rf.length:=by omega
        subst e
        rw [show (List.range x.rf.length).flatMap (rfJ x)=rfL x from rfl,show (List.range x.rf.length).flatMap (frJ x)=frL x from rfl]
        generalize relL n (rfL x)=rf at *
        generalize relL n (frL x)=fr at *
        simp -implicitDefEqProofs [c73_43,c73_43b,relC_take,zrel_splice,zrel_length,Ext.lays,relC_splice]
        have cf:=fun r=>(Clean_ints (n:=h.next) (relC_int (n:=n) (r:=r))).fa
        exact ⟨⟨cf _,cf _,cf _,cf _⟩,k⟩
def inL (l:List (Nat×Nat)) (a b:Nat):Bool:=l.contains (a,b)
def conM (m:Int) (x:Exe):Bool:=decide (1≤m) && (decide (m≤3) && (soundM x && (atomicM x &&
  (acyM x.evs.length (relOf x.evs.length fun a b=>poX x.evs a b && sameC x.evs a b || (inL (coL x) a b || inL (frL x) a b || inL (rfL x) a b)) &&
   acyM x.evs.length (relOf x.evs.length fun a b=>(keptP m x.evs x.evs.length (poX x.evs) a b || inL (rfL x) a b && outC x.evs a b) || (inL (coL x) a b || inL (frL x) a b))))))
set_option maxHeartbeats 2000000 in
theorem Consistent_s (g:AxG G) {x:Exe} {ev rv cv:Value} {m:Int} (V:ExeV h x ev rv cv) (o:ExeOk x) (k:R (.bool (conM m x)) h):WC G 35 [.int .i64 m,.agg #[ev,rv,cv]] h R:=by
  have key:∀ b,conM m x=b→R (.bool b) h:=fun b e=>e ▸ k
  unfold conM at key
  refine WC_pure (WC_enter g.g35 rfl ?_)
  simp -implicitDefEqProofs [c35,c35_body,c35_0]
  generalize eQ:wO G c35_1 _ _ _=Q
  by_cases m1:m < 1
  · subst eQ
    simp -implicitDefEqProofs [c35_1,m1,c35_2,Ext.lays]
    exact key _ (by simp [show ¬ 1≤m by omega])
  · by_cases m3:3 < m
    · subst eQ
      simp -implicitDefEqProofs [c35_1,m1,m3,c35_2,Ext.lays]
      exact key _ (by simp [show ¬ m≤3 by omega])
    · subst eQ
      rw [decide_eq_true (show 1≤m by omega),decide_eq_true (show m≤3 by omega),Bool.true_and,Bool.true_and] at key
      simp -implicitDefEqProofs [c35_1,m1,m3]
      refine sound_s g (V.ext .lays) o.evs o.co o.rows ?_
      cases so:soundM x with
      | false =>
        rw [so] at key
        simp -implicitDefEqProofs [c35_2,Ext.lays]
        exact key _ rfl
      | true =>
        rw [so,Bool.true_and] at key
        have hn:=(soundM_of so).1
        simp -implicitDefEqProofs
        refine Atomic_s g (V.ext .lays) o ?_
        cases at':atomicM x with
        | false =>
          rw [at'] at key
          simp -implicitDefEqProofs [c35_2,Ext.lays]
          exact key _ rfl
        | true =>
          rw [at',Bool.true_and] at key
          simp -implicitDefEqProofs [c35_3]
          refine Rels_s g (V.ext .lays) o so ?_
          rw [show relL x.evs.length (rfL x)=relOf x.evs.length (inL (rfL x)) from rfl,show relL x.evs.length (coL x)=relOf x.evs.length (inL (coL x)) from rfl,show relL x.evs.length (frL x)=relOf x.evs.length (inL (frL x)) from rfl]
          generalize inL (rfL x)=rf at *
          generalize inL (coL x)=co at *
          generalize inL (frL x)=fr at *
          simp -implicitDefEqProofs [relV,relC_take,zrel_splice,zrel_length,c35_4]
          refine Union_r g.toRelG2 hn hn (relOf_ok hn) (relOf_ok hn) ?_
          rw [Nat.min_self,uniR_of hn]
          simp -implicitDefEqProofs [relV,relC_take,zrel_splice,zrel_length,c35_5,c35_5b]
          refine Union_r g.toRelG2 hn hn (relOf_ok hn) (relOf_ok hn) ?_
          rw [Nat.min_self,uniR_of hn]
          simp -implicitDefEqProofs [relV,relC_take]
          refine uniproc_s g (V.ext .lays) hn (Nat.le_refl _) ?_
          generalize eA:acyM x.evs.length (relOf x.evs.length fun a b=>poX x.evs a b && sameC x.evs a b || (co a b || fr a b || rf a b))=A at *
          cases A with
          | false =>
            simp -implicitDefEqProofs [Ext.lays]
            exact key _ rfl
          | true =>
            rw [Bool.true_and] at key
            simp -implicitDefEqProofs [relV,relC_take]
            refine kept_s g (by omega) (V.ext .lays) hn hn (Nat.le_refl _) ?_
            simp -implicitDefEqProofs [relV,relC_take]
            refine outer_s g (V.ext .lays) hn (Nat.le_refl _) ?_
            rw [filR]
            simp -implicitDefEqProofs [relV,relC_take]
            refine Union_r g.toRelG2 hn hn (relOf_ok hn) (relOf_ok hn) ?_
            rw [Nat.min_self,uniR_of hn]
            simp -implicitDefEqProofs [relV,relC_take]
            refine Union_r g.toRelG2 hn hn (relOf_ok hn) (relOf_ok hn) ?_
            rw [Nat.min_self,uniR_of hn]
            simp -implicitDefEqProofs [relV,relC_take]
            refine Acyclic_r g.toRelG g.g30 hn (relOf_ok hn) ?_
            simp -implicitDefEqProofs [Ext.lays]
            exact key _ rfl
end Go.Jq
