import Derived.WalkKit
import Derived.WalkSpells
import Derived.Lib.Hide
import Derived.OwnWalk
import Derived.Orders
import Derived.Maps.OwnSet
import Derived.Test.YtgbbmadjdaphnaaGreatDoorProg
import Derived.Laws.StructEq
import Derived.Laws.BitsAllLaws
import Derived.Laws.Tables
import Derived.Laws.Slices
import Derived.Laws.CopyRow
set_option maxRecDepth 100000
namespace Go.Proofs.YtgbbmadjdaphnaaGreatDoor
abbrev IR9 (n:Int):Prop:=(-9223372036854775808:Int) ≤ n∧n ≤ (9223372036854775807:Int)
open Go
abbrev Pin:=Nat→Nat→Option Value
def Agree (S:Pin) (w:World):Prop:=∀ b o v,S b o=some v→w.cell? ⟨b,o,none⟩=some v∧v.oneCell'=true
def Ext (S S':Pin):Prop:=∀ b o v,S b o=some v→S' b o=some v
theorem Ext.refl (S:Pin):Ext S S:=fun _ _ _ h=>h
theorem Ext.trans {a b c:Pin} (h:Ext a b) (k:Ext b c):Ext a c:=fun x y v e=>k x y v (h x y v e)
inductive AV where
 | int (k:IntKind) (n:Int)
 | bool (b:Bool)
 | str (s:ByteArray)
 | agg (cs:List AV)
 | tup (vs:List AV)
 | sl (s:Nat) (full:Bool) (xs:List (List AV))
 | nils
 | ro (cs:List AV)
 | nilp
 | fn (f:FuncId) (caps:List AV)
 | ptr (k off:Nat)
 | acc (k s:Nat) (xs:List (List AV))
 | ms (k off n c s:Nat)
 | rw (k s n:Nat)
 | mw (k s q eo n:Nat) (full:Bool)
 | prw (k s q j fo:Nat)
 | frz (k s n:Nat) (xs:List (List AV))
 | mpv (k:Nat)
 | undef
 | dead
 deriving Inhabited
def forceA:AV→(AV→Prop)→Prop
 | .int k n,c=>c (.int k n)
 | .bool b,c=>c (.bool b)
 | .str s,c=>c (.str s)
 | .agg cs,c=>c (.agg cs)
 | .tup vs,c=>c (.tup vs)
 | .sl s f xs,c=>c (.sl s f xs)
 | .nils,c=>c .nils
 | .ro cs,c=>c (.ro cs)
 | .nilp,c=>c .nilp
 | .fn f cs,c=>c (.fn f cs)
 | .ptr k o,c=>c (.ptr k o)
 | .acc k s xs,c=>c (.acc k s xs)
 | .ms k o n d s,c=>c (.ms k o n d s)
 | .rw k s n,c=>c (.rw k s n)
 | .mw k s q o n d,c=>c (.mw k s q o n d)
 | .prw k s q j o,c=>c (.prw k s q j o)
 | .frz k s n xs,c=>c (.frz k s n xs)
 | .mpv k,c=>c (.mpv k)
 | .undef,c=>c .undef
 | .dead,c=>c .dead
theorem forceA_eq (x:AV) (c:AV→Prop):forceA x c=c x:=by cases x <;> rfl
abbrev Nm:=Nat→Option Value
def noNm:Nm:=fun _=>none
def rng:IntKind→Int→Prop
 | .i64,n=>-9223372036854775808≤n∧n≤9223372036854775807
 | .u64,n=>0≤n∧n≤18446744073709551615
 | .i32,n=>-2147483648≤n∧n≤2147483647
 | .u32,n=>0≤n∧n≤4294967295
 | .i16,n=>-32768≤n∧n≤32767
 | .u16,n=>0≤n∧n≤65535
 | .i8,n=>-128≤n∧n≤127
 | .u8,n=>0≤n∧n≤255
theorem rng_iff (k:IntKind) (n:Int):rng k n↔k.min≤n∧n≤k.max:=by
 cases k <;> simp [rng,IntKind.min,IntKind.max,IntKind.signed,IntKind.bits]
def hiN:IntKind→Nat
 | .i64=>9223372036854775807 | .u64=>18446744073709551615 | .i32=>2147483647 | .u32=>4294967295
 | .i16=>32767 | .u16=>65535 | .i8=>127 | .u8=>255
def loN:IntKind→Nat
 | .i64=>9223372036854775808 | .i32=>2147483648 | .i16=>32768 | .i8=>128 | _=>0
def rngB (k:IntKind) (n:Int):Bool:=match n with
 | .ofNat m=>Nat.ble m (hiN k)
 | .negSucc m=>Nat.blt m (loN k)
theorem rngB_iff (k:IntKind) (n:Int):rngB k n=true↔rng k n:=by
 cases n with
 | ofNat m =>
  show Nat.ble m (hiN k)=true↔rng k ((m:Nat):Int)
  rw [Nat.ble_eq]
  cases k <;> simp only [hiN,rng] <;> omega
 | negSucc m =>
  show Nat.ble (m+1) (loN k)=true↔_
  rw [Nat.ble_eq]
  cases k <;> simp only [loN,rng] <;> omega
instance (k:IntKind) (n:Int):Decidable (rng k n):=decidable_of_iff _ (rngB_iff k n)
theorem wrap_rng (k:IntKind) (n:Int):rng k (k.wrap n):=by
 cases k <;> simp only [IntKind.wrap,rng,IntKind.signed,IntKind.bits] <;> simp <;> (try split) <;> omega
theorem wrap_eq {k:IntKind} {n:Int} (h:rng k n):k.wrap n=n:=by
 cases k <;> simp only [IntKind.wrap,rng,IntKind.signed,IntKind.bits] at h ⊢ <;> simp at h ⊢ <;> (try split) <;> omega
mutual
def CV (S:Pin):AV→Nm→Value→Prop
 | .int k n,_,v=>v=.int k n∧rng k n
 | .bool b,_,v=>v=.bool b
 | .str s,_,v=>v=.string s∧s.size≤maxLen
 | .agg cs,m,v=>∃ us:Array Value,v=.agg us∧CVl S cs m us.toList
 | .tup cs,m,v=>∃ us:Array Value,v=.tuple us∧CVl S cs m us.toList
 | .sl s full xs,_,v=>∃ A c,v=.slice A xs.length c∧xs.length≤c∧c≤maxLen∧(full=true→c=xs.length)∧(A=none→c=0)∧(∀ a,A=some a→(c≠0→a.spot=none)∧CE S xs s a.block a.off)
 | .nils,_,v=>v=.slice none 0 0
 | .ro cs,_,v=>∃ b o,v=.pointer (some ⟨b,o,none⟩)∧CC S cs b o
 | .nilp,_,v=>v=.pointer none
 | .fn f caps,m,v=>∃ us:Array Value,v=.func (.func f) #[] us∧CVl S caps m us.toList
 | .ptr k off,m,v=>∃ g,m k=some (.pointer (some ⟨g,0,none⟩))∧v=.pointer (some ⟨g,off,none⟩)
 | .acc k s xs,m,v=>(∃ A c,v=.slice A xs.length c∧xs.length≤c∧c≤maxLen∧(A=none→c=0)∧(∀ a,A=some a→(c≠0→a.spot=none)∧CE S xs s a.block a.off)) ∧
   ∃ A n c,m k=some (.slice A n c)∧xs.length≤n∧(xs.length=n→v=.slice A n c)
 | .ms k off n c _,m,v=>∃ g o,m k=some (.pointer (some ⟨g,0,none⟩))∧v=.slice (some ⟨g,o,none⟩) n c∧(c≠0→o=off)∧n≤c∧c≤maxLen
 | .rw k _ n,m,v=>(∃ A c,v=.slice A n c∧n≤c∧c≤maxLen∧(A=none→c=0)∧(∀ a,A=some a→∃ g,a=⟨g,0,none⟩)) ∧
   ∃ A q c,m k=some (.iface 0 (.slice A q c))∧n≤q∧(n=q→v=.slice A q c)
 | .mw k s q eo n full,m,v=>(∃ A c,v=.slice A n c∧n≤c∧c≤maxLen∧(A=none→c=0)∧(∀ a,A=some a→a.spot=none)∧(full=true→c=n) ∧
   ∃ A1 q1 c1,m k=some (.iface 0 (.slice A1 q1 c1))∧q≤q1∧(q=q1→c≠0→∃ g,A1=some ⟨g,0,none⟩∧A=some ⟨g,eo*s,none⟩))
 | .prw k s q j fo,m,v=>(∃ a,v=.pointer (some a)∧a.spot=none∧∃ A1 q1 c1,m k=some (.iface 0 (.slice A1 q1 c1))∧q≤q1∧(q=q1→∃ g,A1=some ⟨g,0,none⟩∧a=⟨g,j*s+fo,none⟩))
 | .frz k s n xs,m,v=>(∃ A c,v=.slice A n c)∧(n=xs.length→(∃ A c,v=.slice A xs.length c∧xs.length≤c∧c≤maxLen∧(A=none→c=0)∧(∀ a,A=some a→(c≠0→a.spot=none)∧CE S xs s a.block a.off)) ∧
   ∃ A n c,m k=some (.slice A n c)∧xs.length≤n∧(xs.length=n→v=.slice A n c))
 | .mpv k,m,v=>∃ g,m k=some (.map (some g))∧v=.map (some g)
 | .undef,_,v=>v=Go.undef
 | .dead,_,_=>True
def CVl (S:Pin):List AV→Nm→List Value→Prop
 | [],_,vs=>vs=[]
 | x::xs,m,vs=>∃ u us,vs=u::us∧CV S x m u∧CVl S xs m us
def CE (S:Pin):List (List AV)→Nat→Nat→Nat→Prop
 | [],_,_,_=>True
 | x::xs,s,b,o=>x.length=s∧CC S x b o∧CE S xs s b (o+s)
def CC (S:Pin):List AV→Nat→Nat→Prop
 | [],_,_=>True
 | x::xs,b,o=>(∃ u,S b o=some u∧CV S x noNm u)∧CC S xs b (o+1)
end
def Goes (u u':Value):Prop:=u'=u∨∃ A n c A' n' c',n < n'∧((u=.slice A n c∧u'=.slice A' n' c')∨(u=.iface 0 (.slice A n c)∧u'=.iface 0 (.slice A' n' c')))
theorem Goes.refl (u:Value):Goes u u:=.inl rfl
theorem Goes.trans {a b c:Value} (h:Goes a b) (k:Goes b c):Goes a c:=by
 rcases h with rfl | ⟨A,n,d,A',n',d',hl,h⟩
 ·exact k
 ·rcases k with rfl | ⟨B,p,e,B',p',e',hk,k⟩
  ·exact .inr ⟨_,_,_,_,_,_,hl,h⟩
  ·rcases h with ⟨rfl,rfl⟩ | ⟨rfl,rfl⟩
   ·rcases k with ⟨h1,rfl⟩ | ⟨h1,_⟩
    ·injection h1 with _ h2 _
     subst h2
     exact .inr ⟨_,_,_,_,_,_,by omega,.inl ⟨rfl,rfl⟩⟩
    ·cases h1
   ·rcases k with ⟨h1,_⟩ | ⟨h1,rfl⟩
    ·cases h1
    ·injection h1 with _ h1
     injection h1 with _ h2 _
     subst h2
     exact .inr ⟨_,_,_,_,_,_,by omega,.inr ⟨rfl,rfl⟩⟩
theorem Goes.ptr {a:Addr} {u:Value} (h:Goes (.pointer (some a)) u):u=.pointer (some a):=by
 rcases h with h | ⟨_,_,_,_,_,_,_,⟨h,_⟩ | ⟨h,_⟩⟩
 ·exact h
 ·cases h
 ·cases h
theorem Goes.slice {A:Option Addr} {n c:Nat} {u:Value} (h:Goes (.slice A n c) u):u=.slice A n c∨∃ A' n' c',u=.slice A' n' c'∧n < n':=by
 rcases h with h | ⟨_,_,_,_,_,_,hl,⟨h,h'⟩ | ⟨h,_⟩⟩
 ·exact .inl h
 ·injection h with _ h _
  subst h
  exact .inr ⟨_,_,_,h',hl⟩
 ·cases h
theorem Goes.row {A:Option Addr} {n c:Nat} {u:Value} (h:Goes (.iface 0 (.slice A n c)) u):u=.iface 0 (.slice A n c)∨∃ A' n' c',u=.iface 0 (.slice A' n' c')∧n < n':=by
 rcases h with h | ⟨_,_,_,_,_,_,hl,⟨h,_⟩ | ⟨h,h'⟩⟩
 ·exact .inl h
 ·cases h
 ·injection h with _ h
  injection h with _ h _
  subst h
  exact .inr ⟨_,_,_,h',hl⟩
theorem Goes.map {x:Option Nat} {u:Value} (h:Goes (.map x) u):u=.map x:=by
 rcases h with h | ⟨_,_,_,_,_,_,_,⟨h,_⟩ | ⟨h,_⟩⟩
 ·exact h
 ·cases h
 ·cases h
def MLe (m m':Nm):Prop:=∀ k u,m k=some u→∃ u',m' k=some u'∧Goes u u'
theorem MLe.refl (m:Nm):MLe m m:=fun _ u h=>⟨u,h,.refl u⟩
theorem MLe.trans {a b c:Nm} (h:MLe a b) (k:MLe b c):MLe a c:=fun i u e=>by
 obtain ⟨v,hv,h1⟩:=h i u e
 obtain ⟨x,hx,h2⟩:=k i v hv
 exact ⟨x,hx,h1.trans h2⟩
theorem MLe.no (m:Nm):MLe noNm m:=fun _ _ h=>by cases h
mutual
def nn (k:Nat):AV→Bool
 | .agg cs=>nnl k cs
 | .tup cs=>nnl k cs
 | .fn _ cs=>nnl k cs
 | .ptr j _=>!(Nat.beq j k)
 | .acc j _ _=>!(Nat.beq j k)
 | .ms j _ _ _ _=>!(Nat.beq j k)
 | .rw j _ _=>!(Nat.beq j k)
 | .mw j _ _ _ _ _=>!(Nat.beq j k)
 | .prw j _ _ _ _=>!(Nat.beq j k)
 | .frz j _ _ _=>!(Nat.beq j k)
 | .mpv j=>!(Nat.beq j k)
 | _=>true
def nnl (k:Nat):List AV→Bool
 | []=>true
 | x::xs=>nn k x&&nnl k xs
end
mutual
theorem CV.mono {S S':Pin} (hS:Ext S S'):∀ (x:AV) (m m':Nm) (v:Value),(∀ k u,nn k x=false→m k=some u→∃ u',m' k=some u'∧Goes u u')→CV S x m v→CV S' x m' v
 | .int _ _,_,_,_,_,h=>by simp only [CV] at h ⊢; exact h
 | .bool _,_,_,_,_,h=>by simp only [CV] at h ⊢; exact h
 | .str _,_,_,_,_,h=>by simp only [CV] at h ⊢; exact h
 | .nils,_,_,_,_,h=>by simp only [CV] at h ⊢; exact h
 | .nilp,_,_,_,_,h=>by simp only [CV] at h ⊢; exact h
 | .undef,_,_,_,_,h=>by simp only [CV] at h ⊢; exact h
 | .dead,_,_,_,_,_=>by simp only [CV]
 | .agg cs,m,m',v,hm,h=>by
  simp only [CV] at h ⊢
  obtain ⟨us,e,h⟩:=h
  exact ⟨us,e,CVl.mono hS cs m m' _ (fun k u hk=>hm k u (by simpa only [nn] using hk)) h⟩
 | .tup cs,m,m',v,hm,h=>by
  simp only [CV] at h ⊢
  obtain ⟨us,e,h⟩:=h
  exact ⟨us,e,CVl.mono hS cs m m' _ (fun k u hk=>hm k u (by simpa only [nn] using hk)) h⟩
 | .fn f cs,m,m',v,hm,h=>by
  simp only [CV] at h ⊢
  obtain ⟨us,e,h⟩:=h
  exact ⟨us,e,CVl.mono hS cs m m' _ (fun k u hk=>hm k u (by simpa only [nn] using hk)) h⟩
 | .sl s full xs,_,_,_,_,h=>by
  simp only [CV] at h ⊢
  obtain ⟨A,c,e,h1,h2,h3,h4,h5⟩:=h
  exact ⟨A,c,e,h1,h2,h3,h4,fun a ha=>⟨(h5 a ha).1,CE.mono hS xs s _ _ (h5 a ha).2⟩⟩
 | .ro cs,_,_,_,_,h=>by
  simp only [CV] at h ⊢
  obtain ⟨b,o,e,h⟩:=h
  exact ⟨b,o,e,CC.mono hS cs b o h⟩
 | .ptr k off,m,m',v,hm,h=>by
  simp only [CV] at h ⊢
  obtain ⟨g,h1,h2⟩:=h
  obtain ⟨u,hu,hg⟩:=hm k _ (by simp [nn]) h1
  exact ⟨g,by rw [hu,hg.ptr],h2⟩
 | .mpv k,m,m',v,hm,h=>by
  simp only [CV] at h ⊢
  obtain ⟨g,h1,h2⟩:=h
  obtain ⟨u,hu,hg⟩:=hm k _ (by simp [nn]) h1
  exact ⟨g,by rw [hu,hg.map],h2⟩
 | .ms k off n c s,m,m',v,hm,h=>by
  simp only [CV] at h ⊢
  obtain ⟨g,o,h1,h2⟩:=h
  obtain ⟨u,hu,hg⟩:=hm k _ (by simp [nn]) h1
  exact ⟨g,o,by rw [hu,hg.ptr],h2⟩
 | .rw k s n,m,m',v,hm,h=>by
  simp only [CV] at h ⊢
  obtain ⟨h0,A,q,c,h1,h2,h3⟩:=h
  refine ⟨h0,?_⟩
  obtain ⟨u,hu,hg⟩:=hm k _ (by simp [nn]) h1
  rcases hg.row with rfl | ⟨A2,q2,c2,rfl,hlt⟩
  ·exact ⟨A,q,c,hu,h2,h3⟩
  ·exact ⟨A2,q2,c2,hu,by omega,fun e=>by omega⟩
 | .mw k s q eo n full,m,m',v,hm,h=>by
  simp only [CV] at h ⊢
  obtain ⟨A,c,e,h1,h2,h3,h4,h5,A1,q1,c1,h6,h7,h8⟩:=h
  refine ⟨A,c,e,h1,h2,h3,h4,h5,?_⟩
  obtain ⟨u,hu,hg⟩:=hm k _ (by simp [nn]) h6
  rcases hg.row with rfl | ⟨A2,q2,c2,rfl,hlt⟩
  ·exact ⟨A1,q1,c1,hu,h7,h8⟩
  ·exact ⟨A2,q2,c2,hu,by omega,fun e=>by omega⟩
 | .prw k s q j fo,m,m',v,hm,h=>by
  simp only [CV] at h ⊢
  obtain ⟨a,e,hsp,A1,q1,c1,h6,h7,h8⟩:=h
  refine ⟨a,e,hsp,?_⟩
  obtain ⟨u,hu,hg⟩:=hm k _ (by simp [nn]) h6
  rcases hg.row with rfl | ⟨A2,q2,c2,rfl,hlt⟩
  ·exact ⟨A1,q1,c1,hu,h7,h8⟩
  ·exact ⟨A2,q2,c2,hu,by omega,fun e=>by omega⟩
 | .frz k s n xs,m,m',v,hm,h=>by
  simp only [CV] at h ⊢
  obtain ⟨h0,h⟩:=h
  refine ⟨h0,fun hn=>?_⟩
  obtain ⟨⟨A,c,e,h1,h2,h3,h4⟩,B,p,d,h5,h6,h7⟩:=h hn
  refine ⟨⟨A,c,e,h1,h2,h3,fun a ha=>⟨(h4 a ha).1,CE.mono hS xs s _ _ (h4 a ha).2⟩⟩,?_⟩
  obtain ⟨u,hu,hg⟩:=hm k _ (by simp [nn]) h5
  rcases hg.slice with rfl | ⟨A2,n2,c2,rfl,hlt⟩
  ·exact ⟨B,p,d,hu,h6,h7⟩
  ·exact ⟨A2,n2,c2,hu,by omega,fun hh=>by omega⟩
 | .acc k s xs,m,m',v,hm,h=>by
  simp only [CV] at h ⊢
  obtain ⟨⟨A,c,e,h1,h2,h3,h4⟩,B,n,d,h5,h6,h7⟩:=h
  refine ⟨⟨A,c,e,h1,h2,h3,fun a ha=>⟨(h4 a ha).1,CE.mono hS xs s _ _ (h4 a ha).2⟩⟩,?_⟩
  obtain ⟨u,hu,hg⟩:=hm k _ (by simp [nn]) h5
  rcases hg.slice with rfl | ⟨A2,n2,c2,rfl,hlt⟩
  ·exact ⟨B,n,d,hu,h6,h7⟩
  ·exact ⟨A2,n2,c2,hu,by omega,fun hh=>by omega⟩
theorem CVl.mono {S S':Pin} (hS:Ext S S'):∀ (xs:List AV) (m m':Nm) (vs:List Value),(∀ k u,nnl k xs=false→m k=some u→∃ u',m' k=some u'∧Goes u u')→CVl S xs m vs→CVl S' xs m' vs
 | [],_,_,_,_,h=>by simp only [CVl] at h ⊢; exact h
 | x::xs,m,m',vs,hm,h=>by
  simp only [CVl] at h ⊢
  obtain ⟨u,us,e,h1,h2⟩:=h
  exact ⟨u,us,e,CV.mono hS x m m' u (fun k v hk=>hm k v (by simp only [nnl,hk,Bool.false_and])) h1,CVl.mono hS xs m m' us (fun k v hk=>hm k v (by simp only [nnl,hk,Bool.and_false])) h2⟩
theorem CE.mono {S S':Pin} (hS:Ext S S'):∀ (xs:List (List AV)) (s b o:Nat),CE S xs s b o→CE S' xs s b o
 | [],_,_,_,_=>by simp only [CE]
 | x::xs,s,b,o,h=>by
  simp only [CE] at h ⊢
  exact ⟨h.1,CC.mono hS x b o h.2.1,CE.mono hS xs s b (o+s) h.2.2⟩
theorem CC.mono {S S':Pin} (hS:Ext S S'):∀ (xs:List AV) (b o:Nat),CC S xs b o→CC S' xs b o
 | [],_,_,_=>by simp only [CC]
 | x::xs,b,o,h=>by
  simp only [CC] at h ⊢
  obtain ⟨⟨u,hu,hx⟩,h2⟩:=h
  exact ⟨⟨u,hS _ _ _ hu,CV.mono hS x noNm noNm u (fun k v _ hk=>⟨v,hk,.refl v⟩) hx⟩,CC.mono hS xs b (o+1) h2⟩
end
theorem CV.ext {S S':Pin} {x:AV} {m m':Nm} {v:Value} (h:CV S x m v) (hS:Ext S S') (hm:MLe m m'):CV S' x m' v:=CV.mono hS x m m' v (fun k u _ e=>hm k u e) h
def Nm.set (m:Nm) (k:Nat) (u:Value):Nm:=fun j=>if j=k then some u else m j
theorem CV.set {S:Pin} {x:AV} {m:Nm} {v u:Value} {k:Nat} (h:CV S x m v) (hk:nn k x=true):CV S x (m.set k u) v :=
 CV.mono (Ext.refl S) x m _ v (fun j w hj e=>⟨w,by
  have:j≠k:=by rintro rfl; rw [hk] at hj; cases hj
  simp [Nm.set,this,e],.refl w⟩) h
theorem CVl.ext {S S':Pin} {x:List AV} {m m':Nm} {v:List Value} (h:CVl S x m v) (hS:Ext S S') (hm:MLe m m'):CVl S' x m' v:=CVl.mono hS x m m' v (fun k u _ e=>hm k u e) h
theorem CVl.len {S:Pin}:∀ {xs:List AV} {m:Nm} {vs:List Value},CVl S xs m vs→vs.length=xs.length
 | [],_,_,h=>by simp only [CVl] at h; simp [h]
 | x::xs,m,vs,h=>by
  simp only [CVl] at h
  obtain ⟨u,us,rfl,_,h2⟩:=h
  simp [CVl.len h2]
theorem CVl.get {S:Pin}:∀ {xs:List AV} {m:Nm} {vs:List Value},CVl S xs m vs→∀ {j:Nat} {x:AV},xs[j]?=some x→∃ v,vs[j]?=some v∧CV S x m v
 | [],_,_,_,j,x,e=>by simp at e
 | y::ys,m,vs,h,j,x,e=>by
  simp only [CVl] at h
  obtain ⟨u,us,rfl,h1,h2⟩:=h
  cases j with
  | zero=>simp at e; subst e; exact ⟨u,rfl,h1⟩
  | succ j=>simp at e; obtain ⟨v,hv,hx⟩:=CVl.get h2 e; exact ⟨v,by simpa using hv,hx⟩
theorem CVl.mk {S:Pin}:∀ {xs:List AV} {m:Nm} {vs:List Value},vs.length=xs.length→(∀ (j:Nat) (x:AV) (v:Value),xs[j]?=some x→vs[j]?=some v→CV S x m v)→CVl S xs m vs
 | [],_,vs,hl,_=>by simp only [CVl]; exact List.eq_nil_of_length_eq_zero hl
 | x::xs,m,[],hl,_=>by simp at hl
 | x::xs,m,v::vs,hl,h=>by
  simp only [CVl]
  exact ⟨v,vs,rfl,h 0 x v rfl rfl,CVl.mk (by simpa using hl) (fun j y w e1 e2=>h (j+1) y w (by simpa using e1) (by simpa using e2))⟩
theorem CC.get {S:Pin}:∀ {xs:List AV} {b o:Nat},CC S xs b o→∀ {j:Nat} {x:AV},xs[j]?=some x→∃ u,S b (o+j)=some u∧CV S x noNm u
 | [],_,_,_,j,x,e=>by simp at e
 | y::ys,b,o,h,j,x,e=>by
  simp only [CC] at h
  cases j with
  | zero=>simp at e; subst e; exact h.1
  | succ j =>
   simp at e
   obtain ⟨u,hu,hx⟩:=CC.get h.2 e
   exact ⟨u,by rw [← hu,show o+1+j=o+(j+1) by omega],hx⟩
theorem CC.mk {S:Pin}:∀ {xs:List AV} {b o:Nat},(∀ (j:Nat) (x:AV),xs[j]?=some x→∃ u,S b (o+j)=some u∧CV S x noNm u)→CC S xs b o
 | [],_,_,_=>by simp only [CC]
 | y::ys,b,o,h=>by
  simp only [CC]
  exact ⟨by simpa using h 0 y rfl,CC.mk (fun j x e=>by
   obtain ⟨u,hu,hx⟩:=h (j+1) x (by simpa using e)
   exact ⟨u,by rw [← hu,show o+(j+1)=o+1+j by omega],hx⟩)⟩
theorem CC.drop {S:Pin} {xs:List AV} {b o:Nat} (h:CC S xs b o) (d:Nat):CC S (xs.drop d) b (o+d) :=
 CC.mk fun j x e=>by
  rw [List.getElem?_drop] at e
  obtain ⟨u,hu,hx⟩:=h.get e
  exact ⟨u,by rw [← hu]; congr 1; omega,hx⟩
theorem CC.take {S:Pin} {xs:List AV} {b o:Nat} (h:CC S xs b o) (d:Nat):CC S (xs.take d) b o :=
 CC.mk fun j x e=>h.get (by rw [List.getElem?_take] at e; split at e <;> simp_all)
theorem CE.get {S:Pin}:∀ {xs:List (List AV)} {s b o:Nat},CE S xs s b o→∀ {j:Nat} {x:List AV},xs[j]?=some x→x.length=s∧CC S x b (o+j*s)
 | [],_,_,_,_,j,x,e=>by simp at e
 | y::ys,s,b,o,h,j,x,e=>by
  simp only [CE] at h
  cases j with
  | zero=>simp at e; subst e; exact ⟨h.1,by simpa using h.2.1⟩
  | succ j =>
   simp at e
   have:=CE.get h.2.2 e
   exact ⟨this.1,by rw [show o+(j+1)*s=o+s+j*s by rw [Nat.add_mul]; omega]; exact this.2⟩
theorem CE.mk {S:Pin}:∀ {xs:List (List AV)} {s b o:Nat},(∀ (j:Nat) (x:List AV),xs[j]?=some x→x.length=s∧CC S x b (o+j*s))→CE S xs s b o
 | [],_,_,_,_=>by simp only [CE]
 | y::ys,s,b,o,h=>by
  simp only [CE]
  have h0:=h 0 y rfl
  exact ⟨h0.1,by simpa using h0.2,CE.mk (fun j x e=>by
   have:=h (j+1) x (by simpa using e)
   exact ⟨this.1,by rw [show o+s+j*s=o+(j+1)*s by rw [Nat.add_mul]; omega]; exact this.2⟩)⟩
theorem CE.drop {S:Pin} {xs:List (List AV)} {s b o:Nat} (h:CE S xs s b o) (d:Nat):CE S (xs.drop d) s b (o+d*s) :=
 CE.mk fun j x e=>by
  rw [List.getElem?_drop] at e
  have:=h.get e
  exact ⟨this.1,by rw [show o+d*s+j*s=o+(d+j)*s by rw [Nat.add_mul]; omega]; exact this.2⟩
theorem CE.take {S:Pin} {xs:List (List AV)} {s b o:Nat} (h:CE S xs s b o) (d:Nat):CE S (xs.take d) s b o :=
 CE.mk fun j x e=>h.get (by rw [List.getElem?_take] at e; split at e <;> simp_all)
mutual
def wfA:AV→Prop
 | .int k n=>rng k n
 | .str s=>s.size≤9223372036854775807
 | .agg cs=>wfL cs
 | .tup cs=>wfL cs
 | _=>True
def wfL:List AV→Prop
 | []=>True
 | x::xs=>wfA x∧wfL xs
end
mutual
theorem wfA_cv {S:Pin}:∀ (x:AV) (m:Nm) (v:Value),CV S x m v→wfA x
 | .int k n,m,v,h=>by simp only [CV] at h; simp only [wfA]; exact h.2
 | .str s,m,v,h=>by simp only [CV] at h; simp only [wfA]; exact h.2
 | .agg cs,m,v,h=>by
  simp only [CV] at h
  obtain ⟨us,_,hu⟩:=h
  simp only [wfA]
  exact wfL_cv cs m _ hu
 | .tup cs,m,v,h=>by
  simp only [CV] at h
  obtain ⟨us,_,hu⟩:=h
  simp only [wfA]
  exact wfL_cv cs m _ hu
 | .bool _,_,_,_=>by simp only [wfA]
 | .sl _ _ _,_,_,_=>by simp only [wfA]
 | .nils,_,_,_=>by simp only [wfA]
 | .ro _,_,_,_=>by simp only [wfA]
 | .nilp,_,_,_=>by simp only [wfA]
 | .fn _ _,_,_,_=>by simp only [wfA]
 | .ptr _ _,_,_,_=>by simp only [wfA]
 | .acc _ _ _,_,_,_=>by simp only [wfA]
 | .ms _ _ _ _ _,_,_,_=>by simp only [wfA]
 | .rw _ _ _,_,_,_=>by simp only [wfA]
 | .mw _ _ _ _ _ _,_,_,_=>by simp only [wfA]
 | .prw _ _ _ _ _,_,_,_=>by simp only [wfA]
 | .frz _ _ _ _,_,_,_=>by simp only [wfA]
 | .mpv _,_,_,_=>by simp only [wfA]
 | .undef,_,_,_=>by simp only [wfA]
 | .dead,_,_,_=>by simp only [wfA]
theorem wfL_cv {S:Pin}:∀ (xs:List AV) (m:Nm) (vs:List Value),CVl S xs m vs→wfL xs
 | [],_,_,_=>by simp only [wfL]
 | x::xs,m,vs,h=>by
  simp only [CVl] at h
  obtain ⟨u,us,_,h1,h2⟩:=h
  simp only [wfL]
  exact ⟨wfA_cv x m u h1,wfL_cv xs m us h2⟩
end
end Go.Proofs.YtgbbmadjdaphnaaGreatDoor
namespace Go.Proofs.YtgbbmadjdaphnaaGreatDoor
open Go
inductive Blk where
 | cells (cs:List AV)
 | tok (e s n:Nat)
 | row (e s:Nat) (xs:List (List AV))
 | mp (kt et:Nat) (l:List (Int × AV))
 | nrow (e s:Nat) (ks:List Nat) (xs:List (List AV))
 | gone
theorem nbeq_self (i:Nat):Nat.beq i i=true:=Nat.beq_refl i
theorem nbeq_ne {i j:Nat} (h:i≠j):Nat.beq i j=false:=by
 cases e:Nat.beq i j with
 | true=>exact absurd (Nat.eq_of_beq_eq_true e) h
 | false=>rfl
def inL (k:Nat):List Nat→Bool
 | []=>false
 | j::l=>Nat.beq j k||inL k l
def lk {α:Type}:List (Nat × α)→Nat→Option α
 | [],_=>none
 | (j,x)::l,i=>cond (Nat.beq j i) (some x) (lk l i)
def insK {α β:Type}:List (Nat × α)→Nat→α→(List (Nat × α)→β)→β
 | [],i,v,k=>k [(i,v)]
 | (j,x)::l,i,v,k=>cond (Nat.beq j i) (k ((j,v)::l)) (insK l i v fun l'=>k ((j,x)::l'))
def ins {α:Type}:List (Nat × α)→Nat→α→List (Nat × α)
 | [],i,v=>[(i,v)]
 | (j,x)::l,i,v=>cond (Nat.beq j i) ((j,v)::l) ((j,x)::ins l i v)
theorem insK_ins {α β:Type} (i:Nat) (v:α):∀ (l:List (Nat × α)) (k:List (Nat × α)→β),insK l i v k=k (ins l i v)
 | [],k=>rfl
 | (j,x)::l,k=>by
  simp only [insK,ins]
  rw [insK_ins i v l]
  cases Nat.beq j i <;> rfl
theorem lk_ins {α:Type} (i:Nat) (v:α) (j:Nat):∀ (l:List (Nat × α)),lk (ins l i v) j=if j=i then some v else lk l j
 | []=>by
  simp only [ins,lk]
  by_cases h:j=i
  ·subst h; rw [nbeq_self,if_pos rfl]; rfl
  ·rw [if_neg h,nbeq_ne (fun e=>h e.symm)]; rfl
 | (q,x)::l=>by
  simp only [ins]
  by_cases hq:q=i
  ·subst hq
   rw [nbeq_self]
   simp only [cond_true,lk]
   by_cases h:j=q
   ·subst h; rw [nbeq_self,if_pos rfl]; rfl
   ·rw [if_neg h,nbeq_ne (fun e=>h e.symm)]; rfl
  ·rw [nbeq_ne hq]
   simp only [cond_false,lk]
   rw [lk_ins i v j l]
   by_cases h:q=j
   ·subst h; rw [nbeq_self]; simp only [cond_true]; rw [if_neg hq]
   ·rw [nbeq_ne h]; rfl
structure St where
 tmps:List (Nat × AV)
 heap:List (Nat × Blk)
def St.get (st:St) (t:Nat):AV:=match lk st.tmps t with | some x=>x | none=>.dead
def St.put (st:St) (d:Nat) (x:AV):St:=⟨ins st.tmps d x,st.heap⟩
def St.blk (st:St) (k:Nat) (b:Blk):St:=⟨st.tmps,ins st.heap k b⟩
theorem St.get_put (st:St) (d:Nat) (x:AV) (t:Nat):(st.put d x).get t=if t=d then x else st.get t:=by
 unfold St.get St.put
 simp only [lk_ins]
 by_cases h:t=d
 ·simp [h]
 ·simp [h]
def bk:Value→Option Nat
 | .pointer (some a)=>some a.block
 | .slice (some a) _ _=>some a.block
 | .iface _ (.slice (some a) _ _)=>some a.block
 | .map (some g)=>some g
 | _=>none
def rowTy (e:Nat):Nat:=if e < 1000000 then e else if e < 2000000 then e - 1000000 else e - 2000000
def RowMk (e n:Nat) (fr:Nat × Nat):Prop:=fr=(0,0)∨(1000000≤e∧e < 2000000∧n≤fr.1)
def rowNm (e:Nat) (m:Nm):Nm:=if e < 2000000 then noNm else m
theorem rowTy_op {e:Nat}:rowTy (e+2000000)=e:=by unfold rowTy; rw [if_neg (by omega),if_neg (by omega)]; omega
theorem RowMk.op {e n:Nat} {fr:Nat × Nat} (h:RowMk (e+2000000) n fr):fr=(0,0):=h.resolve_right (by omega)
theorem rowNm_le (e:Nat) (m:Nm):MLe (rowNm e m) m:=by
 unfold rowNm
 split
 ·exact MLe.no m
 ·exact MLe.refl m
theorem rowNm_lo {e:Nat} (h:e < 2000000) (m:Nm):rowNm e m=noNm:=if_pos h
theorem rowNm_hi {e:Nat} (h:¬ e < 2000000) (m:Nm):rowNm e m=m:=if_neg h
theorem rowNm_mono (e:Nat) {m m':Nm} (h:MLe m m'):MLe (rowNm e m) (rowNm e m'):=by
 unfold rowNm
 split
 ·exact MLe.refl _
 ·exact h
theorem rowTy_lt {e:Nat} (h:e < 1000000):rowTy e=e:=if_pos h
theorem RowMk.none {e n:Nat}:RowMk e n (0,0):=.inl rfl
theorem RowMk.lt {e n:Nat} {fr:Nat × Nat} (h:RowMk e n fr) (he:e < 1000000):fr=(0,0):=h.resolve_right (by omega)
def mGet:List (Int × AV)→Int→Option AV
 | [],_=>none
 | (k,x)::l,n=>cond (decide (k=n)) (some x) (mGet l n)
def mDel:List (Int × AV)→Int→List (Int × AV)
 | [],_=>[]
 | (k,x)::l,n=>cond (decide (k=n)) (mDel l n) ((k,x)::mDel l n)
def mPut (l:List (Int × AV)) (n:Int) (x:AV):List (Int × AV):=(n,x)::mDel l n
def avD:AV→DataW Unit
 | .int k n=>.lit (.int k n)
 | .bool b=>.lit (.bool b)
 | _=>.nil
def skT (t:Nat):Bool:=Nat.beq t 27
def codeK:List Int→Int
 | []=>0
 | x::l=>(x+9223372036854775808)+18446744073709551616*codeK l
def KeyIs (kt:Nat) (v:Value) (n:Int):Prop :=
 (skT kt=false∧v=.int .i64 n∧rng .i64 n)∨(skT kt=true∧∃ a b c d,v=.agg #[.int .i64 a,.int .i64 b,.int .i64 c,.int .i64 d]∧rng .i64 a∧rng .i64 b∧rng .i64 c∧rng .i64 d∧n=codeK [a,b,c,d])
theorem KeyIs.fn {kt:Nat} {v:Value} {n q:Int} (h:KeyIs kt v n) (k:KeyIs kt v q):n=q:=by
 rcases h with ⟨h1,rfl,_⟩ | ⟨h1,a,b,c,d,rfl,_,_,_,_,rfl⟩
 ·rcases k with ⟨_,h2,_⟩ | ⟨k1,_⟩
  ·injection h2
  ·rw [h1] at k1; cases k1
 ·rcases k with ⟨k1,_⟩ | ⟨_,a',b',c',d',h2,_,_,_,_,rfl⟩
  ·rw [h1] at k1; cases k1
  ·simp only [Value.agg.injEq,Array.mk.injEq,List.cons.injEq,Value.int.injEq,true_and,and_true] at h2
   obtain ⟨rfl,rfl,rfl,rfl⟩:=h2; rfl
theorem KeyIs.inj {kt:Nat} {v v':Value} {n:Int} (h:KeyIs kt v n) (k:KeyIs kt v' n):v=v':=by
 rcases h with ⟨h1,rfl,_⟩ | ⟨h1,a,b,c,d,rfl,r1,r2,r3,r4,e⟩
 ·rcases k with ⟨_,rfl,_⟩ | ⟨k1,_⟩
  ·rfl
  ·rw [h1] at k1; cases k1
 ·rcases k with ⟨k1,_⟩ | ⟨_,a',b',c',d',rfl,s1,s2,s3,s4,e'⟩
  ·rw [h1] at k1; cases k1
  ·have e:=e.symm.trans e'
   simp only [codeK] at e
   simp only [rng] at r1 r2 r3 r4 s1 s2 s3 s4
   obtain rfl:a=a':=by omega
   obtain rfl:b=b':=by omega
   obtain rfl:c=c':=by omega
   obtain rfl:d=d':=by omega
   rfl
structure MapD (kt et:Nat) (D:DataW Unit) (l:List (Int × AV)):Prop where
 size:Maps.size D=l.length
 has:∀ v n L,KeyIs kt v n→keyOf Tryz.prog kt v=some L→Maps.has D L=(mGet l n).isSome
 get:∀ v n L x,KeyIs kt v n→keyOf Tryz.prog kt v=some L→mGet l n=some x→∀ z,D.atKey L z=avD x
 nd:(l.map Prod.fst).Nodup
 kind:∀ n x,mGet l n=some x→(∃ z,x=.int .i64 z∧rng .i64 z∧Tryz.prog.underlying et=some (.int .i64))∨(∃ b,x=.bool b∧Tryz.prog.underlying et=some .bool)
def HeldRow (S:Pin) (m:Nm) (w:World) (k e s:Nat) (xs:List (List AV)):Prop:=∃ A c,m k=some (.iface 0 (.slice A xs.length c))∧xs.length≤c∧c≤maxLen∧((A=none∧c=0)∨∃ g cur fr,A=some ⟨g,0,none⟩∧w.heap[g]?=some (.cells cur (rowTy e) fr)∧RowMk e cur.size fr∧cur.size=c*s∧(∀ o,S g o=none) ∧
      ∀ (j:Nat) (x:List AV),xs[j]?=some x→x.length=s∧∀ (i:Nat) (y:AV),x[i]?=some y→∃ v,cur[j*s+i]?=some v∧v.oneCell'=true∧CV S y (rowNm e m) v)
def NmIn (ks:List Nat) (xs:List (List AV)):Prop:=∀ (j i:Nat) (x:List AV) (y:AV),xs[j]?=some x→x[i]?=some y→∀ k,nn k y=false→inL k ks=true
def Held (S:Pin) (m:Nm) (w:World) (k:Nat):Blk→Prop
 | .cells cs=>∃ g arr t,m k=some (.pointer (some ⟨g,0,none⟩))∧w.heap[g]?=some (.cells arr t (0,0))∧CVl S cs m arr.toList∧∀ o,S g o=none
 | .tok e s n=>∃ A c,m k=some (.slice A n c)∧n≤c∧c≤maxLen∧((A=none∧c=0)∨∃ g cur fr,A=some ⟨g,0,none⟩∧w.heap[g]?=some (.cells cur (rowTy e) fr)∧RowMk e cur.size fr∧cur.size=c*s∧∀ o,n*s≤o→S g o=none)
 | .row e s xs=>HeldRow S m w k e s xs
 | .mp kt et l=>∃ g D,m k=some (.map (some g))∧w.ownsMap Tryz.prog kt (plainElem (H:=Unit) Tryz.prog et) g l.length D∧MapD kt et D l
 | .nrow e s ks xs=>HeldRow S m w k (e+2000000) s xs∧NmIn ks xs
 | .gone=>∃ u,m k=some u∧∀ g,bk u=some g→g < w.heap.size
structure Gh where
 w0:World
 S0:Pin
 m0:Nm
 M:Nat→Prop
structure Rel (G:Gh) (keep:List Nat) (st:St) (a:Act) (w:World) (S:Pin) (m:Nm):Prop where
 defers:a.defers=[]
 pin0:Ext G.S0 S
 pinNew:∀ b o,b < G.w0.heap.size→¬ G.M b→S b o=G.S0 b o
 agree:Agree S w
 tmps:∀ t,CV S (st.get t) m (a.tmps.getD t undef)
 held:∀ k b,lk st.heap k=some b→Held S m w k b
 inj:∀ k k' b b' u u' g,lk st.heap k=some b→lk st.heap k'=some b'→k≠k'→m k=some u→m k'=some u'→bk u=some g→bk u'≠some g
 own:∀ k b u g,lk st.heap k=some b→m k=some u→bk u=some g→G.w0.heap.size≤g∨G.M g
 os:w.os=G.w0.os
 tape:w.tape=G.w0.tape
 output:w.output=G.w0.output
 size:G.w0.heap.size≤w.heap.size
 frame:∀ b,b < G.w0.heap.size→¬ G.M b→w.heap[b]?=G.w0.heap[b]?
 m0:MLe G.m0 m
 keep:∀ k u,G.m0 k=some u→k ∈ keep
theorem Agree.lt {S:Pin} {w:World} (h:Agree S w) {b o:Nat} {v:Value} (e:S b o=some v):b < w.heap.size:=World.block_lt_of_cell? w _ (h b o v e).1
theorem Held.lt {S:Pin} {m:Nm} {w:World} {k:Nat} {b:Blk} (h:Held S m w k b) {u:Value} {g:Nat} (hu:m k=some u) (hg:bk u=some g):g < w.heap.size:=by
 cases b with
 | cells cs =>
  obtain ⟨g',arr,t,h1,h2,_⟩:=h
  rw [hu] at h1
  injection h1 with h1
  subst h1
  simp only [bk,Option.some.injEq] at hg
  subst hg
  exact (Array.getElem?_eq_some_iff.1 h2).1
 | row e s xs =>
  obtain ⟨A,c,h1,_,_,h2⟩:=h
  rw [hu] at h1
  injection h1 with h1
  subst h1
  rcases h2 with ⟨rfl,_⟩ | ⟨g',cur,fr,rfl,h4,_⟩
  ·simp [bk] at hg
  ·simp only [bk,Option.some.injEq] at hg
   subst hg
   exact (Array.getElem?_eq_some_iff.1 h4).1
 | tok e s n =>
  obtain ⟨A,c,h1,_,_,h2⟩:=h
  rw [hu] at h1
  injection h1 with h1
  subst h1
  rcases h2 with ⟨rfl,_⟩ | ⟨g',cur,fr,rfl,h4,_⟩
  ·simp [bk] at hg
  ·simp only [bk,Option.some.injEq] at hg
   subst hg
   exact (Array.getElem?_eq_some_iff.1 h4).1
 | nrow e s ks xs =>
  obtain ⟨A,c,h1,_,_,h2⟩:=h.1
  rw [hu] at h1
  injection h1 with h1
  subst h1
  rcases h2 with ⟨rfl,_⟩ | ⟨g',cur,fr,rfl,h4,_⟩
  ·simp [bk] at hg
  ·simp only [bk,Option.some.injEq] at hg
   subst hg
   exact (Array.getElem?_eq_some_iff.1 h4).1
 | mp kt et l =>
  obtain ⟨g',D,h1,h2,_⟩:=h
  rw [hu] at h1
  injection h1 with h1
  subst h1
  simp only [bk,Option.some.injEq] at hg
  subst hg
  exact h2.lt
 | gone =>
  obtain ⟨u',h1,h2⟩:=h
  rw [hu] at h1
  injection h1 with h1
  subst h1
  exact h2 g hg
def Inside:Blk→List AV→Prop
 | .cells cs,ds=>cs=ds
 | .row e _ xs,ds=>2000000≤e∧∃ (j i:Nat) (x:List AV) (y:AV),xs[j]?=some x∧x[i]?=some y∧ds=[y]
 | .nrow _ _ ks _,ds=>∃ y,ds=[y]∧∀ k,nn k y=false→inL k ks=true
 | _,_=>False
theorem Held.keep {S S':Pin} {m m':Nm} {w w':World} {k:Nat} {b:Blk} (h:Held S m w k b) (hS:Ext S S') (hm:∀ cs vs,Inside b cs→CVl S cs m vs→CVl S' cs m' vs) (hk:m' k=m k)
  (hb:∀ u g,m k=some u→bk u=some g→w'.heap[g]?=w.heap[g]?∧∀ o,S' g o=S g o):Held S' m' w' k b:=by
 cases b with
 | cells cs =>
  obtain ⟨g,arr,t,h1,h2,h3,h4⟩:=h
  obtain ⟨q1,q2⟩:=hb _ g h1 rfl
  exact ⟨g,arr,t,hk.trans h1,q1.trans h2,hm _ _ rfl h3,fun o=>(q2 o).trans (h4 o)⟩
 | row e0 s xs =>
  obtain ⟨A,c,h1,h2,h3,h5⟩:=h
  refine ⟨A,c,hk.trans h1,h2,h3,?_⟩
  rcases h5 with h5 | ⟨g,cur,fr,rfl,h7,hfr,h8,h9,h10⟩
  ·exact .inl h5
  ·obtain ⟨q1,q2⟩:=hb _ g h1 rfl
   refine .inr ⟨g,cur,fr,rfl,q1.trans h7,hfr,h8,fun o=>(q2 o).trans (h9 o),fun j x e=>⟨(h10 j x e).1,fun i y e'=>?_⟩⟩
   obtain ⟨v,hv,ho,hy⟩:=(h10 j x e).2 i y e'
   refine ⟨v,hv,ho,?_⟩
   by_cases he:e0 < 2000000
   ·rw [rowNm_lo he] at hy ⊢
    exact hy.ext hS (MLe.refl _)
   ·rw [rowNm_hi he] at hy ⊢
    have h12:=hm [y] [v] ⟨by omega,j,i,x,y,e,e',rfl⟩ (by simp only [CVl]; exact ⟨v,[],rfl,hy,rfl⟩)
    simp only [CVl] at h12
    obtain ⟨u,us,e3,e4,e5⟩:=h12
    injection e3 with e3
    subst e3; exact e4
 | nrow e0 s ks xs =>
  obtain ⟨⟨A,c,h1,h2,h3,h5⟩,hn⟩:=h
  refine ⟨⟨A,c,hk.trans h1,h2,h3,?_⟩,hn⟩
  rcases h5 with h5 | ⟨g,cur,fr,rfl,h7,hfr,h8,h9,h10⟩
  ·exact .inl h5
  ·obtain ⟨q1,q2⟩:=hb _ g h1 rfl
   refine .inr ⟨g,cur,fr,rfl,q1.trans h7,hfr,h8,fun o=>(q2 o).trans (h9 o),fun j x e=>⟨(h10 j x e).1,fun i y e'=>?_⟩⟩
   obtain ⟨v,hv,ho,hy⟩:=(h10 j x e).2 i y e'
   refine ⟨v,hv,ho,?_⟩
   rw [rowNm_hi (by omega)] at hy ⊢
   have h12:=hm [y] [v] ⟨y,rfl,hn j i x y e e'⟩ (by simp only [CVl]; exact ⟨v,[],rfl,hy,rfl⟩)
   simp only [CVl] at h12
   obtain ⟨u,us,e3,e4,e5⟩:=h12
   injection e3 with e3
   subst e3; exact e4
 | mp kt et l =>
  obtain ⟨g,D,h1,h2,h3⟩:=h
  obtain ⟨q1,_⟩:=hb _ g h1 rfl
  obtain ⟨es,clock,h4,h5⟩:=h2
  exact ⟨g,D,hk.trans h1,⟨es,clock,q1.trans h4,h5⟩,h3⟩
 | gone =>
  obtain ⟨u',h1,h2⟩:=h
  refine ⟨u',hk.trans h1,fun g hg=>?_⟩
  obtain ⟨q1,_⟩:=hb _ g h1 hg
  have:=h2 g hg
  rw [Array.getElem?_eq_getElem this] at q1
  exact (Array.getElem?_eq_some_iff.1 q1).1
 | tok e s n =>
  obtain ⟨A,c,h1,h2,h3,h5⟩:=h
  refine ⟨A,c,hk.trans h1,h2,h3,?_⟩
  rcases h5 with h5 | ⟨g,cur,fr,rfl,h7,hfr,h8,h9⟩
  ·exact .inl h5
  ·obtain ⟨q1,q2⟩:=hb _ g h1 rfl
   exact .inr ⟨g,cur,fr,rfl,q1.trans h7,hfr,h8,fun o ho=>(q2 o).trans (h9 o ho)⟩
section
variable {G:Gh} {kp:List Nat} {st:St} {a:Act} {w:World} {S:Pin} {m:Nm}
theorem Rel.put (h:Rel G kp st a w S m) {r:AV} {v:Value} (hr:CV S r m v) {d:Nat} (hd:d < a.tmps.size):Rel G kp (st.put d r) (a.put (some d) v) w S m:=by
 refine { h with defers:=h.defers,tmps:=fun t=>?_ }
 rw [St.get_put]
 by_cases e:t=d
 ·subst e
  rw [if_pos rfl]
  simp only [Act.put,Array.getD_eq_getD_getElem?,Array.getElem?_setIfInBounds_self]
  simp [hd,hr]
 ·rw [if_neg e]
  have:=h.tmps t
  simp only [Act.put,Array.getD_eq_getD_getElem?] at this ⊢
  rw [Array.getElem?_setIfInBounds_ne (fun q=>e q.symm)]
  exact this
theorem Rel.next (h:Rel G kp st a w S m) {w':World} {S':Pin} (hb:Go.RowKit.Below w.heap.size w w') (hS:Ext S S') (hp:∀ b o,b < w.heap.size→S' b o=S b o) (hA:Agree S' w'):Rel G kp st a w' S' m :=
  { defers:=h.defers
    pin0:=h.pin0.trans hS
    pinNew:=fun b o h1 h2=>(hp b o (Nat.lt_of_lt_of_le h1 h.size)).trans (h.pinNew b o h1 h2)
    agree:=hA
    tmps:=fun t=>(h.tmps t).ext hS (MLe.refl m)
    held:=fun k b hk=>(h.held k b hk).keep hS (fun _ _ _ hc=>hc.ext hS (MLe.refl m)) rfl (fun u g hu hg=>by
      have hl:=(h.held k b hk).lt hu hg
      exact ⟨hb.block g hl,fun o=>hp g o hl⟩)
    inj:=h.inj
    own:=h.own
    os:=hb.os.trans h.os
    tape:=hb.tape.trans h.tape
    output:=hb.output.trans h.output
    size:=Nat.le_trans h.size hb.size
    frame:=fun b h1 h2=>(hb.block b (Nat.lt_of_lt_of_le h1 h.size)).trans (h.frame b h1 h2)
    m0:=h.m0
    keep:=h.keep }
theorem Rel.drew (h:Rel G kp st a w S m):Rel G kp st a w.drew S m :=
 h.next (Go.RowKit.Below.drew (Go.RowKit.Below.refl _ _)) (Ext.refl S) (fun _ _ _=>rfl) h.agree
end
def nnll (k:Nat):List (List AV)→Bool
 | []=>true
 | x::l=>nnl k x&&nnll k l
theorem nnl_at {k:Nat}:∀ {l:List AV} {i:Nat} {y:AV},nnl k l=true→l[i]?=some y→nn k y=true
 | [],_,_,_,e=>by simp at e
 | x::l,0,y,h,e=>by simp at e; subst e; simp only [nnl,Bool.and_eq_true] at h; exact h.1
 | x::l,i+1,y,h,e=>by simp only [nnl,Bool.and_eq_true] at h; exact nnl_at h.2 (by simpa using e)
theorem nnll_at {k:Nat}:∀ {l:List (List AV)} {i:Nat} {y:List AV},nnll k l=true→l[i]?=some y→nnl k y=true
 | [],_,_,_,e=>by simp at e
 | x::l,0,y,h,e=>by simp at e; subst e; simp only [nnll,Bool.and_eq_true] at h; exact h.1
 | x::l,i+1,y,h,e=>by simp only [nnll,Bool.and_eq_true] at h; exact nnll_at h.2 (by simpa using e)
def nnB (k:Nat):Blk→Bool
 | .cells cs=>nnl k cs
 | .row e _ xs=>cond (Nat.blt e 2000000) true (nnll k xs)
 | .nrow _ _ ks _=>!(inL k ks)
 | _=>true
theorem nnB_in {k:Nat} {b:Blk} {cs:List AV} (h:nnB k b=true) (hi:Inside b cs):nnl k cs=true:=by
 cases b with
 | cells ds=>have hi:ds=cs:=hi; subst hi; exact h
 | row e s xs =>
  obtain ⟨he,j,i,x,y,e1,e2,rfl⟩:=hi
  have hb:Nat.blt e 2000000=false:=by
   cases q:Nat.blt e 2000000 with
   | false=>rfl
   | true=>have:e < 2000000:=Nat.le_of_ble_eq_true q; omega
  simp only [nnB,hb,cond_false] at h
  have:=nnl_at (nnll_at h e1) e2
  simp only [nnl,this,Bool.and_self]
 | nrow e s ks xs =>
  obtain ⟨y,rfl,hy⟩:=hi
  have h:inL k ks=false:=by simpa [nnB] using h
  have:nn k y=true:=by
   cases q:nn k y with
   | true=>rfl
   | false=>rw [hy k q] at h; cases h
  simp only [nnl,this,Bool.and_self]
 | tok e s n=>exact hi.elim
 | mp kt et l=>exact hi.elim
 | gone=>exact hi.elim
def nnT (k:Nat):List (Nat × AV)→Bool
 | []=>true
 | (_,x)::l=>nn k x&&nnT k l
def nnH (k:Nat):List (Nat × Blk)→Bool
 | []=>true
 | (j,b)::l=>(Nat.beq j k||nnB k b)&&nnH k l
def fresh (kp:List Nat) (st:St) (k:Nat):Bool:=nnT k st.tmps&&nnH k st.heap&&!inL k kp
theorem nnT_get {k:Nat}:∀ {l:List (Nat × AV)} {t:Nat} {x:AV},nnT k l=true→lk l t=some x→nn k x=true
 | [],_,_,_,e=>by simp [lk] at e
 | (j,y)::l,t,x,h,e=>by
  simp only [nnT,Bool.and_eq_true] at h
  simp only [lk] at e
  cases hj:Nat.beq j t with
  | true=>rw [hj] at e; simp only [cond_true,Option.some.injEq] at e; subst e; exact h.1
  | false=>rw [hj] at e; simp only [cond_false] at e; exact nnT_get h.2 e
theorem nnH_get {k:Nat}:∀ {l:List (Nat × Blk)} {t:Nat} {x:Blk},nnH k l=true→lk l t=some x→t≠k→nnB k x=true
 | [],_,_,_,e,_=>by simp [lk] at e
 | (j,y)::l,t,x,h,e,hne=>by
  simp only [nnH,Bool.and_eq_true,Bool.or_eq_true] at h
  simp only [lk] at e
  cases hj:Nat.beq j t with
  | true =>
   rw [hj] at e
   simp only [cond_true,Option.some.injEq] at e
   subst e
   rcases h.1 with h1 | h1
   ·exact absurd ((Nat.eq_of_beq_eq_true hj).symm.trans (Nat.eq_of_beq_eq_true h1)) hne
   ·exact h1
  | false=>rw [hj] at e; simp only [cond_false] at e; exact nnH_get h.2 e hne
theorem inL_mem {k:Nat}:∀ {l:List Nat},inL k l=false→k ∉ l
 | [],_=>by simp
 | j::l,h=>by
  simp only [inL,Bool.or_eq_false_iff] at h
  simp only [List.mem_cons,not_or]
  refine ⟨fun e=>?_,inL_mem h.2⟩
  subst e
  rw [nbeq_self] at h
  exact absurd h.1 (by simp)
theorem fresh_get {kp:List Nat} {st:St} {k:Nat} (h:fresh kp st k=true) (t:Nat):nn k (st.get t)=true:=by
 simp only [fresh,Bool.and_eq_true] at h
 unfold St.get
 cases e:lk st.tmps t with
 | none=>rfl
 | some x=>exact nnT_get h.1.1 e
theorem CVl.set {S:Pin} {x:List AV} {m:Nm} {v:List Value} {u:Value} {k:Nat} (h:CVl S x m v) (hk:nnl k x=true):CVl S x (m.set k u) v :=
 CVl.mono (Ext.refl S) x m _ v (fun j w hj e=>⟨w,by
  have:j≠k:=by rintro rfl; rw [hk] at hj; cases hj
  simp [Nm.set,this,e],.refl w⟩) h
theorem Nm.set_same (m:Nm) (k:Nat) (u:Value):m.set k u k=some u:=by simp [Nm.set]
theorem Nm.set_ne (m:Nm) {k j:Nat} (u:Value) (h:j≠k):m.set k u j=m j:=by simp [Nm.set,h]
section
variable {G:Gh} {kp:List Nat} {st:St} {a:Act} {w:World} {S:Pin} {m:Nm}
theorem Rel.fresh_ (h:Rel G kp st a w S m) {k:Nat} (hf:fresh kp st k=true) {b:Blk} {u:Value} {w':World} {S':Pin}
  (hb:Go.RowKit.Below w.heap.size w w') (hS:Ext S S') (hp:∀ g o,g < w.heap.size→S' g o=S g o) (hA:Agree S' w')
  (hu:∀ g,bk u=some g→w.heap.size≤g) (hh:Held S' (m.set k u) w' k b):Rel G kp (st.blk k b) a w' S' (m.set k u):=by
 have h1:=h.next hb hS hp hA
 have hf':=hf
 simp only [fresh,Bool.and_eq_true,Bool.not_eq_true'] at hf'
 obtain ⟨⟨hT,hH⟩,hK⟩:=hf'
 refine { h1 with defers:=h1.defers,tmps:=fun t=>(h1.tmps t).set (fresh_get hf t),held:=?_,inj:=?_,own:=?_,m0:=?_ }
 ·intro j c hj
  simp only [St.blk,lk_ins] at hj
  by_cases e:j=k
  ·subst e
   rw [if_pos rfl] at hj
   injection hj with hj
   subst hj; exact hh
  ·rw [if_neg e] at hj
   refine (h1.held j c hj).keep (Ext.refl _) (fun cs vs hc hv=>hv.set ?_) (Nm.set_ne m u e) (fun _ _ _ _=>⟨rfl,fun _=>rfl⟩)
   exact nnB_in (nnH_get hH hj e) hc
 ·intro j j' c c' v v' g hj hj' hne hv hv' hg hg'
  simp only [St.blk,lk_ins] at hj hj'
  by_cases e:j=k
  ·subst e
   rw [Nm.set_same] at hv
   injection hv with hv
   subst hv
   rw [if_neg (fun q=>hne q.symm)] at hj'
   rw [Nm.set_ne m _ (fun q=>hne q.symm)] at hv'
   have:=(h.held j' c' hj').lt hv' hg'
   have:=hu g hg
   omega
  ·rw [if_neg e] at hj
   rw [Nm.set_ne m _ e] at hv
   by_cases e':j'=k
   ·subst e'
    rw [Nm.set_same] at hv'
    injection hv' with hv'
    subst hv'
    have:=(h.held j c hj).lt hv hg
    have:=hu g hg'
    omega
   ·rw [if_neg e'] at hj'
    rw [Nm.set_ne m _ e'] at hv'
    exact h.inj j j' c c' v v' g hj hj' hne hv hv' hg hg'
 ·intro j c v g hj hv hg
  simp only [St.blk,lk_ins] at hj
  by_cases e:j=k
  ·subst e
   rw [Nm.set_same] at hv
   injection hv with hv
   subst hv
   exact .inl (Nat.le_trans h.size (hu g hg))
  ·rw [if_neg e] at hj
   rw [Nm.set_ne m _ e] at hv
   exact h.own j c v g hj hv hg
 ·intro j v hj
  obtain ⟨v',hv',hg⟩:=h.m0 j v hj
  have:j≠k:=fun e=>inL_mem hK (e ▸ h.keep j v hj)
  exact ⟨v',by rw [Nm.set_ne m _ this]; exact hv',hg⟩
theorem Rel.alloc (h:Rel G kp st a w S m) {k:Nat} (hf:fresh kp st k=true) {cs:List AV} {arr:Array Value} (t:TypeId) (hc:CVl S cs m arr.toList) (hn:nnl k cs=true) :
  Rel G kp (st.blk k (.cells cs)) a (w.alloc (.cells arr t)) S (m.set k (.pointer (some ⟨w.heap.size,0,none⟩))):=by
 refine h.fresh_ hf ((Go.RowKit.Below.refl _ _).alloc (Nat.le_refl _) _) (Ext.refl S) (fun _ _ _=>rfl) ?_ ?_ ?_
 ·intro b o v e
  refine ⟨?_,(h.agree b o v e).2⟩
  rw [World.cell?_alloc_lt w _ _ (h.agree.lt e)]
  exact (h.agree b o v e).1
 ·intro g hg
  simp only [bk,Option.some.injEq] at hg
  omega
 ·refine ⟨w.heap.size,arr,t,Nm.set_same _ _ _,heap_alloc_new w _,hc.set hn,fun o=>?_⟩
  cases e:S w.heap.size o with
  | none=>rfl
  | some v=>exact absurd (h.agree.lt e) (by omega)
theorem Rel.write (h:Rel G kp st a w S m) {k:Nat} {b b':Blk} (hk:lk st.heap k=some b) {g:Nat} (hm:m k=some (.pointer (some ⟨g,0,none⟩))) {w':World}
  (hos:w'.os=w.os) (htp:w'.tape=w.tape) (hou:w'.output=w.output) (hsz:w'.heap.size=w.heap.size) (hb:∀ i,i≠g→w'.heap[i]?=w.heap[i]?)
  (hn:∀ o,S g o=none) (hh:Held S m w' k b'):Rel G kp (st.blk k b') a w' S m:=by
 have hlk:∀ j,(∃ c,lk (st.blk k b').heap j=some c)→∃ c,lk st.heap j=some c:=by
  rintro j ⟨c,hj⟩
  simp only [St.blk,lk_ins] at hj
  by_cases e:j=k
  ·subst e; exact ⟨b,hk⟩
  ·rw [if_neg e] at hj; exact ⟨c,hj⟩
 have hgo:=h.own k b _ g hk hm rfl
 refine { h with defers:=h.defers,agree:=?_,held:=?_,inj:=?_,own:=?_,os:=hos.trans h.os,tape:=htp.trans h.tape,output:=hou.trans h.output,size:=by rw [hsz]; exact h.size,frame:=?_ }
 ·intro c o v e
  have hne:c≠g:=by rintro rfl; rw [hn] at e; cases e
  refine ⟨?_,(h.agree c o v e).2⟩
  rw [← (h.agree c o v e).1]
  exact World.cell?_of_block (w:=w) (hb c hne)
 ·intro j c hj
  simp only [St.blk,lk_ins] at hj
  by_cases e:j=k
  ·subst e
   rw [if_pos rfl] at hj
   injection hj with hj
   subst hj; exact hh
  ·rw [if_neg e] at hj
   refine (h.held j c hj).keep (Ext.refl _) (fun _ _ _ hv=>hv) rfl (fun u q hu hq=>⟨hb q ?_,fun _=>rfl⟩)
   rintro rfl
   exact h.inj k j b c _ u q hk hj (fun e'=>e e'.symm) hm hu rfl hq
 ·intro j j' c c' v v' q hj hj' hne hv hv' hq
  obtain ⟨d,hd⟩:=hlk j ⟨c,hj⟩
  obtain ⟨d',hd'⟩:=hlk j' ⟨c',hj'⟩
  exact h.inj j j' d d' v v' q hd hd' hne hv hv' hq
 ·intro j c v q hj hv hq
  obtain ⟨d,hd⟩:=hlk j ⟨c,hj⟩
  exact h.own j d v q hd hv hq
 ·intro c h1 h2
  have hne:c≠g:=by
   rintro rfl
   rcases hgo with h3 | h3
   ·omega
   ·exact h2 h3
  exact (hb c hne).trans (h.frame c h1 h2)
theorem Rel.writeM (h:Rel G kp st a w S m) {k:Nat} {b b':Blk} (hk:lk st.heap k=some b) {g:Nat} (hm:m k=some (.map (some g))) {w':World}
  (hos:w'.os=w.os) (htp:w'.tape=w.tape) (hou:w'.output=w.output) (hsz:w'.heap.size=w.heap.size) (hb:∀ i,i≠g→w'.heap[i]?=w.heap[i]?)
  (hn:∀ o,S g o=none) (hh:Held S m w' k b'):Rel G kp (st.blk k b') a w' S m:=by
 have hlk:∀ j,(∃ c,lk (st.blk k b').heap j=some c)→∃ c,lk st.heap j=some c:=by
  rintro j ⟨c,hj⟩
  simp only [St.blk,lk_ins] at hj
  by_cases e:j=k
  ·subst e; exact ⟨b,hk⟩
  ·rw [if_neg e] at hj; exact ⟨c,hj⟩
 have hgo:=h.own k b _ g hk hm rfl
 refine { h with defers:=h.defers,agree:=?_,held:=?_,inj:=?_,own:=?_,os:=hos.trans h.os,tape:=htp.trans h.tape,output:=hou.trans h.output,size:=by rw [hsz]; exact h.size,frame:=?_ }
 ·intro c o v e
  have hne:c≠g:=by rintro rfl; rw [hn] at e; cases e
  refine ⟨?_,(h.agree c o v e).2⟩
  rw [← (h.agree c o v e).1]
  exact World.cell?_of_block (w:=w) (hb c hne)
 ·intro j c hj
  simp only [St.blk,lk_ins] at hj
  by_cases e:j=k
  ·subst e
   rw [if_pos rfl] at hj
   injection hj with hj
   subst hj; exact hh
  ·rw [if_neg e] at hj
   refine (h.held j c hj).keep (Ext.refl _) (fun _ _ _ hv=>hv) rfl (fun u q hu hq=>⟨hb q ?_,fun _=>rfl⟩)
   rintro rfl
   exact h.inj k j b c _ u q hk hj (fun e'=>e e'.symm) hm hu rfl hq
 ·intro j j' c c' v v' q hj hj' hne hv hv' hq
  obtain ⟨d,hd⟩:=hlk j ⟨c,hj⟩
  obtain ⟨d',hd'⟩:=hlk j' ⟨c',hj'⟩
  exact h.inj j j' d d' v v' q hd hd' hne hv hv' hq
 ·intro j c v q hj hv hq
  obtain ⟨d,hd⟩:=hlk j ⟨c,hj⟩
  exact h.own j d v q hd hv hq
 ·intro c h1 h2
  have hne:c≠g:=by
   rintro rfl
   rcases hgo with h3 | h3
   ·omega
   ·exact h2 h3
  exact (hb c hne).trans (h.frame c h1 h2)
theorem Rel.writeR (h:Rel G kp st a w S m) {k:Nat} {b b':Blk} (hk:lk st.heap k=some b) {g q d:Nat} (hm:m k=some (.iface 0 (.slice (some ⟨g,0,none⟩) q d))) (_:d≠0) {w':World}
  (hos:w'.os=w.os) (htp:w'.tape=w.tape) (hou:w'.output=w.output) (hsz:w'.heap.size=w.heap.size) (hb:∀ i,i≠g→w'.heap[i]?=w.heap[i]?)
  (hn:∀ o,S g o=none) (hh:Held S m w' k b'):Rel G kp (st.blk k b') a w' S m:=by
 have hlk:∀ j,(∃ c,lk (st.blk k b').heap j=some c)→∃ c,lk st.heap j=some c:=by
  rintro j ⟨c,hj⟩
  simp only [St.blk,lk_ins] at hj
  by_cases e:j=k
  ·subst e; exact ⟨b,hk⟩
  ·rw [if_neg e] at hj; exact ⟨c,hj⟩
 have hbk:bk (.iface 0 (.slice (some ⟨g,0,none⟩) q d))=some g:=rfl
 have hgo:=h.own k b _ g hk hm hbk
 refine { h with defers:=h.defers,agree:=?_,held:=?_,inj:=?_,own:=?_,os:=hos.trans h.os,tape:=htp.trans h.tape,output:=hou.trans h.output,size:=by rw [hsz]; exact h.size,frame:=?_ }
 ·intro c o v e
  have hne:c≠g:=by rintro rfl; rw [hn] at e; cases e
  refine ⟨?_,(h.agree c o v e).2⟩
  rw [← (h.agree c o v e).1]
  exact World.cell?_of_block (w:=w) (hb c hne)
 ·intro j c hj
  simp only [St.blk,lk_ins] at hj
  by_cases e:j=k
  ·subst e
   rw [if_pos rfl] at hj
   injection hj with hj
   subst hj; exact hh
  ·rw [if_neg e] at hj
   refine (h.held j c hj).keep (Ext.refl _) (fun _ _ _ hv=>hv) rfl (fun u q' hu hq=>⟨hb q' ?_,fun _=>rfl⟩)
   rintro rfl
   exact h.inj k j b c _ u _ hk hj (fun e'=>e e'.symm) hm hu hbk hq
 ·intro j j' c c' v v' q hj hj' hne hv hv' hq
  obtain ⟨d,hd⟩:=hlk j ⟨c,hj⟩
  obtain ⟨d',hd'⟩:=hlk j' ⟨c',hj'⟩
  exact h.inj j j' d d' v v' q hd hd' hne hv hv' hq
 ·intro j c v q hj hv hq
  obtain ⟨d,hd⟩:=hlk j ⟨c,hj⟩
  exact h.own j d v q hd hv hq
 ·intro c h1 h2
  have hne:c≠g:=by
   rintro rfl
   rcases hgo with h3 | h3
   ·omega
   ·exact h2 h3
  exact (hb c hne).trans (h.frame c h1 h2)
theorem Rel.weaken (h:Rel G kp st a w S m) {st':St} (ht:∀ t v,CV S (st.get t) m v→CV S (st'.get t) m v)
  (hh:∀ k b,lk st'.heap k=some b→(∃ b0,lk st.heap k=some b0)∧Held S m w k b):Rel G kp st' a w S m:=by
 refine { h with defers:=h.defers,tmps:=fun t=>ht t _ (h.tmps t),held:=fun k b hk=>(hh k b hk).2,inj:=?_,own:=?_ }
 ·intro j j' c c' v v' q hj hj' hne hv hv' hq
  obtain ⟨⟨d,hd⟩,_⟩:=hh j c hj
  obtain ⟨⟨d',hd'⟩,_⟩:=hh j' c' hj'
  exact h.inj j j' d d' v v' q hd hd' hne hv hv' hq
 ·intro j c v q hj hv hq
  obtain ⟨⟨d,hd⟩,_⟩:=hh j c hj
  exact h.own j d v q hd hv hq
end
end Go.Proofs.YtgbbmadjdaphnaaGreatDoor
namespace Go.Proofs.YtgbbmadjdaphnaaGreatDoor
open Go
set_option linter.unusedVariables false
set_option linter.unusedSimpArgs false
structure Env where
 glob:Nat→Option (List AV):=fun _=>none
 spec:FuncId→Option (List AV→Option (Prop × AV)):=fun _=>none
 specH:FuncId→Option (List AV→List Blk→Option (Prop × AV × List Blk)):=fun _=>none
 wrap:Bool:=false
 shape:List Nat:=[]
 slz:List (Nat × List Nat):=[]
 nowf:Bool:=false
 eager:Bool:=false
 add64:Option FuncId:=none
 specQ:FuncId→Option (List AV→List Blk→Option ((AV→List Blk→Prop)→Prop)):=fun _=>none
 nls:List (Nat × Nat × Nat):=[]
 bst:List Nat:=[]
 nq:Bool:=false
def ofV1:Value→AV
 | .int k n=>cond (decide (rng k n)) (.int k n) .dead
 | .bool b=>.bool b
 | .string s=>cond (Nat.ble s.size 9223372036854775807) (.str s) .dead
 | .slice none 0 0=>.nils
 | .pointer none=>.nilp
 | _=>.dead
def ofVs:List Value→List AV
 | []=>[]
 | v::vs=>ofV1 v::ofVs vs
def ofV:Value→AV
 | .agg cs=>.agg (ofVs cs.toList)
 | v=>ofV1 v
def evO (E:Env) (st:St):Operand→AV
 | .tmp t=>st.get t
 | .const v=>ofV v
 | .global g=>match E.glob g with | some cs=>.ro cs | none=>.dead
 | .func f=>.fn f []
theorem ofV1_cv (S:Pin) (m:Nm) (v:Value):CV S (ofV1 v) m v:=by
 unfold ofV1
 split
 ·rename_i k n
  by_cases h:rng k n
  ·rw [decide_eq_true h]; simp only [cond_true,CV]; exact ⟨trivial,h⟩
  ·rw [decide_eq_false h]; simp only [cond_false,CV]
 ·simp only [CV]
 ·rename_i s
  cases h:Nat.ble s.size 9223372036854775807 with
  | true=>simp only [cond_true,CV]; exact ⟨trivial,by have:=Nat.le_of_ble_eq_true h; unfold maxLen; omega⟩
  | false=>simp only [cond_false,CV]
 ·simp only [CV]
 ·simp only [CV]
 ·simp only [CV]
theorem ofVs_cv (S:Pin) (m:Nm):∀ (vs:List Value),CVl S (ofVs vs) m vs
 | []=>by simp only [ofVs,CVl]
 | v::vs=>by simp only [ofVs,CVl]; exact ⟨v,vs,rfl,ofV1_cv S m v,ofVs_cv S m vs⟩
theorem ofV_cv (S:Pin) (m:Nm) (v:Value):CV S (ofV v) m v:=by
 unfold ofV
 split
 ·rename_i cs; simp only [CV]; exact ⟨cs,rfl,ofVs_cv S m _⟩
 ·exact ofV1_cv S m v
def GOK (E:Env) (S:Pin):Prop:=∀ g cs,E.glob g=some cs→CC S cs g 0
theorem evO_cv {E:Env} {G:Gh} {kp:List Nat} {st:St} {a:Act} {w:World} {S:Pin} {m:Nm} (hg:GOK E G.S0) (h:Rel G kp st a w S m) (x:Operand):CV S (evO E st x) m (a.eval x):=by
 cases x with
 | tmp t=>exact h.tmps t
 | const v=>exact ofV_cv S m v
 | global g =>
  simp only [evO,Act.eval]
  cases e:E.glob g with
  | none=>simp only [CV]
  | some cs =>
   simp only [CV]
   exact ⟨g,0,rfl,CC.mono h.pin0 cs g 0 (hg g cs e)⟩
 | func f=>simp only [evO,Act.eval,CV]; exact ⟨#[],rfl,by simp only [CVl]⟩
def St.blks (st:St):List (Nat × Blk)→St
 | []=>st
 | (k,b)::u=>(st.blk k b).blks u
def St.upd (st:St) (d:Option Nat) (r:AV) (u:List (Nat × Blk)):St :=
 match d with
 | some t=>(st.blks u).put t r
 | none=>st.blks u
def dstOk (nt:Nat):Option Nat→Bool
 | some t=>Nat.blt t nt
 | none=>true
def Good (P:Program) (E:Env) (nt:Nat) (o:Oper) (ev:Operand→AV) (h:Nat→Option Blk) (r:AV) (u:List (Nat × Blk)) (rd:List Nat):Prop :=
 ∀ (G:Gh) (kp:List Nat) (st:St) (a:Act) (w:World) (S:Pin) (m:Nm) (next:Act→World→Prop) (Q:Exit→Act→World→Prop),
  GOK E G.S0→Rel G kp st a w S m→a.tmps.size=nt→(∀ x ∈ o.op.operands,evO E st x=ev x)→(∀ k ∈ rd,lk st.heap k=h k)→(∀ p ∈ u,p.1 ∉ rd→fresh kp st p.1=true) →
  (∀ v w' S' m',wfA r→Rel G kp (st.upd o.dst r u) (a.put o.dst v) w' S' m'→next (a.put o.dst v) w')→o.wp P a w next Q
theorem good_value {P:Program} {E:Env} {nt:Nat} {o:Oper} {ev:Operand→AV} {h:Nat→Option Blk} {r:AV} {u:List (Nat × Blk)} {rd:List Nat} (hd:dstOk nt o.dst=true)
  (H:∀ (G:Gh) (kp:List Nat) (st:St) (a:Act) (w:World) (S:Pin) (m:Nm),GOK E G.S0→Rel G kp st a w S m→(∀ x ∈ o.op.operands,CV S (ev x) m (a.eval x))→(∀ k ∈ rd,lk st.heap k=h k)→(∀ p ∈ u,p.1 ∉ rd→fresh kp st p.1=true) →
   ∃ v w' S' m',(execOp a.eval o).run P w=.ok (.value v) w'∧Rel G kp (st.blks u) a w' S' m'∧CV S' r m' v):Good P E nt o ev h r u rd:=by
 intro G kp st a w S m next Q hG hR hn he hk hf hnext
 obtain ⟨v,w',S',m',h1,h2,h3⟩:=H G kp st a w S m hG hR (fun x hx=>he x hx ▸ evO_cv hG hR x) hk hf
 unfold Oper.wp
 rw [h1]
 refine hnext v w' S' m' (wfA_cv _ _ _ h3) ?_
 unfold St.upd
 cases e:o.dst with
 | none=>exact h2
 | some t =>
  refine h2.put h3 ?_
  rw [hn]
  rw [e] at hd
  exact Nat.le_of_ble_eq_true hd
theorem good_pure {P:Program} {E:Env} {nt:Nat} {o:Oper} {ev:Operand→AV} {h:Nat→Option Blk} {r:AV} (hd:dstOk nt o.dst=true)
  (H:∀ (a:Act) (w:World) (S:Pin) (m:Nm),(∀ x ∈ o.op.operands,CV S (ev x) m (a.eval x))→∃ v,(execOp a.eval o).run P w=.ok (.value v) w∧CV S r m v):Good P E nt o ev h r [] [] :=
 good_value hd fun G kp st a w S m hG hR he hk hf=>by
  obtain ⟨v,h1,h2⟩:=H a w S m he
  exact ⟨v,w,S,m,h1,hR,h2⟩
end Go.Proofs.YtgbbmadjdaphnaaGreatDoor
namespace Go.Proofs.YtgbbmadjdaphnaaGreatDoor
open Go
set_option linter.unusedVariables false
set_option linter.unusedSimpArgs false
def chk (p:Prop) [Decidable p] (K:Prop):Prop:=cond (decide p) K False
theorem chk_iff {p K:Prop} [Decidable p]:chk p K↔p∧K:=by
 unfold chk
 by_cases h:p
 ·rw [decide_eq_true h]; simp [h]
 ·rw [decide_eq_false h]; simp [h]
theorem cond_F {b:Bool} {A:Prop} (h:cond b A False):b=true∧A:=by
 cases b
 ·exact h.elim
 ·exact ⟨rfl,h⟩
def ar (E:Env) (k:IntKind) (n:Int) (K:AV→Prop):Prop :=
 match k with
 | .i64=>cond E.wrap (K (.int .i64 (IntKind.i64.wrap n))) (chk (rng .i64 n) (K (.int .i64 n)))
 | k=>K (.int k (k.wrap n))
theorem ar_sound {E:Env} {k:IntKind} {n:Int} {K:AV→Prop} (h:ar E k n K):∃ z,K (.int k z)∧z=k.wrap n∧rng k z:=by
 unfold ar at h
 split at h
 ·cases hw:E.wrap with
  | true=>rw [hw] at h; exact ⟨_,h,rfl,wrap_rng _ _⟩
  | false =>
   rw [hw] at h
   obtain ⟨h1,h2⟩:=chk_iff.1 h
   exact ⟨n,h2,(wrap_eq h1).symm,h1⟩
 ·exact ⟨_,h,rfl,wrap_rng _ _⟩
def intop (E:Env) (op:BinOp) (k:IntKind) (a b:Int) (K:AV→Prop):Prop :=
 match op with
 | .add=>ar E k (a+b) K
 | .sub=>ar E k (a - b) K
 | .mul=>ar E k (a*b) K
 | .quo=>chk (¬ b=0) (ar E k (a.tdiv b) K)
 | .rem=>chk (¬ b=0) (K (.int k (a.tmod b)))
 | .and=>K (.int k (bits .and k a b))
 | .or=>K (.int k (bits .or k a b))
 | .xor=>K (.int k (bits .xor k a b))
 | .andNot=>K (.int k (bits .andNot k a b))
 | .eql=>K (.bool (decide (a=b)))
 | .neq=>K (.bool (decide (¬ a=b)))
 | .lss=>K (.bool (decide (a < b)))
 | .leq=>K (.bool (decide (a≤b)))
 | .gtr=>K (.bool (decide (b < a)))
 | .geq=>K (.bool (decide (b≤a)))
 | _=>False
theorem bits_rng (op:BinOp) (k:IntKind) (a b:Int):rng k (bits op k a b):=by
 unfold bits
 exact wrap_rng k _
theorem tmod_rng {k:IntKind} {a b:Int} (ha:rng k a) (hb:rng k b) (_:¬ b=0):rng k (a.tmod b):=by
 have h1:(a.tmod b).natAbs≤a.natAbs:=by
  rw [Int.natAbs_tmod]; exact Nat.mod_le _ _
 have h2:0≤a→0≤a.tmod b:=fun h=>Int.tmod_nonneg b h
 have h3:a≤0→a.tmod b≤0:=fun h=>by
  have:=Int.tmod_nonneg b (show 0≤-a by omega)
  rw [Int.neg_tmod] at this; omega
 cases k <;> simp only [rng] at ha ⊢ <;> omega
theorem intop_sound {P:Program} {E:Env} {op:BinOp} {k:IntKind} {a b:Int} {K:AV→Prop} (ha:rng k a) (hb:rng k b) (h:intop E op k a b K) :
  ∃ r v,K r∧(∀ w t,(binOp op t (.int k a) (.int k b)).run P w=.ok v w)∧(∀ t x y w,(eqGuard op t x y (.int k a) (.int k b)).run P w=.ok () w)∧∀ S m,CV S r m v:=by
 have he:∀ t x y w,(eqGuard op t x y (.int k a) (.int k b)).run P w=.ok () w:=by
  intro t x y w; unfold eqGuard; split <;> rfl
 have wr:∀ n z,z=k.wrap n→rng k z→(∀ w t,(binOp op t (.int k a) (.int k b)).run P w=.ok (.int k (k.wrap n)) w)→K (.int k z) →
   ∃ r v,K r∧(∀ w t,(binOp op t (.int k a) (.int k b)).run P w=.ok v w)∧(∀ t x y w,(eqGuard op t x y (.int k a) (.int k b)).run P w=.ok () w)∧∀ S m,CV S r m v :=
  fun n z e hz hw hK=>⟨_,_,hK,hw,he,fun S m=>by simp only [CV]; exact ⟨by rw [e],hz⟩⟩
 have bl:∀ c:Bool,(∀ w t,(binOp op t (.int k a) (.int k b)).run P w=.ok (.bool c) w)→K (.bool c) →
   ∃ r v,K r∧(∀ w t,(binOp op t (.int k a) (.int k b)).run P w=.ok v w)∧(∀ t x y w,(eqGuard op t x y (.int k a) (.int k b)).run P w=.ok () w)∧∀ S m,CV S r m v :=
  fun c hw hK=>⟨_,_,hK,hw,he,fun S m=>by simp only [CV]⟩
 unfold intop at h
 split at h
 ·obtain ⟨z,h1,h2,h3⟩:=ar_sound h; exact wr _ z h2 h3 (fun w t=>by simp [binOp,Op.intArith]) h1
 ·obtain ⟨z,h1,h2,h3⟩:=ar_sound h; exact wr _ z h2 h3 (fun w t=>by simp [binOp,Op.intArith]) h1
 ·obtain ⟨z,h1,h2,h3⟩:=ar_sound h; exact wr _ z h2 h3 (fun w t=>by simp [binOp,Op.intArith]) h1
 ·obtain ⟨h0,h⟩:=chk_iff.1 h
  obtain ⟨z,h1,h2,h3⟩:=ar_sound h
  exact wr _ z h2 h3 (fun w t=>by simp [binOp,Op.intDiv,h0]) h1
 ·obtain ⟨h0,h⟩:=chk_iff.1 h
  refine ⟨_,_,h,(fun w t=>by simp [binOp,Op.intDiv,h0]; rfl),he,fun S m=>by simp only [CV]; exact ⟨trivial,tmod_rng ha hb h0⟩⟩
 ·exact ⟨_,.int k (bits .and k a b),h,(fun w t=>by simp [binOp,Op.intBits,bits]),he,fun S m=>by simp only [CV]; exact ⟨trivial,bits_rng _ _ _ _⟩⟩
 ·exact ⟨_,.int k (bits .or k a b),h,(fun w t=>by simp [binOp,Op.intBits,bits]),he,fun S m=>by simp only [CV]; exact ⟨trivial,bits_rng _ _ _ _⟩⟩
 ·exact ⟨_,.int k (bits .xor k a b),h,(fun w t=>by simp [binOp,Op.intBits,bits]),he,fun S m=>by simp only [CV]; exact ⟨trivial,bits_rng _ _ _ _⟩⟩
 ·exact ⟨_,.int k (bits .andNot k a b),h,(fun w t=>by simp [binOp,Op.intBits,bits]),he,fun S m=>by simp only [CV]; exact ⟨trivial,bits_rng _ _ _ _⟩⟩
 ·refine bl _ (fun w t=>?_) h; simp [binOp,Op.intCmp]; rfl
 ·refine bl _ (fun w t=>?_) h; simp [binOp,Op.intCmp]; rfl
 ·refine bl _ (fun w t=>?_) h; simp [binOp,Op.intCmp]
 ·refine bl _ (fun w t=>?_) h; simp [binOp,Op.intCmp]
 ·refine bl _ (fun w t=>?_) h; simp [binOp,Op.intCmp]
 ·refine bl _ (fun w t=>?_) h; simp [binOp,Op.intCmp]
 ·exact h.elim
def shop (E:Env) (op:BinOp) (k:IntKind) (a b:Int) (K:AV→Prop):Prop :=
 match op with
 | .shl=>chk (0≤b) (ar E k (a*2 ^ (min b.toNat k.bits)) K)
 | .shr=>chk (0≤b) (K (.int k (a / 2 ^ (min b.toNat k.bits))))
 | _=>False
theorem div_rng {k:IntKind} {a:Int} (n:Nat) (ha:rng k a):rng k (a / 2 ^ n):=by
 have hp:(0:Int) < 2 ^ n:=Int.pow_pos (by decide)
 have h1:0≤a→0≤a / 2 ^ n∧a / 2 ^ n≤a:=fun h=>⟨Int.ediv_nonneg h (Int.le_of_lt hp),Int.ediv_le_self _ h⟩
 have h2:a < 0→a≤a / 2 ^ n∧a / 2 ^ n < 0:=fun h=>by
  refine ⟨?_,Int.ediv_neg_of_neg_of_pos h hp⟩
  refine Int.le_ediv_of_mul_le hp ?_
  have:a*2 ^ n≤a*1:=Int.mul_le_mul_of_nonpos_left (by omega) (by omega)
  omega
 rcases Int.lt_or_le a 0 with h | h
 ·have:=h2 h; cases k <;> simp only [rng] at ha ⊢ <;> omega
 ·have:=h1 h; cases k <;> simp only [rng] at ha ⊢ <;> omega
theorem shop_sound {P:Program} {E:Env} {op:BinOp} {k k':IntKind} {a b:Int} {K:AV→Prop} (ha:rng k a) (h:shop E op k a b K) :
  ∃ r v,K r∧(∀ w t,(binOp op t (.int k a) (.int k' b)).run P w=.ok v w)∧(∀ t x y w,(eqGuard op t x y (.int k a) (.int k' b)).run P w=.ok () w)∧∀ S m,CV S r m v:=by
 have he:∀ t x y w,(eqGuard op t x y (.int k a) (.int k' b)).run P w=.ok () w:=by
  intro t x y w; unfold eqGuard; split <;> rfl
 unfold shop at h
 split at h
 ·obtain ⟨h0,h⟩:=chk_iff.1 h
  obtain ⟨z,h1,h2,h3⟩:=ar_sound h
  refine ⟨_,.int k (k.wrap (a*2 ^ (min b.toNat k.bits))),h1,(fun w t=>?_),he,fun S m=>by simp only [CV]; exact ⟨by rw [h2],h3⟩⟩
  have:¬ b < 0:=by omega
  simp [binOp,Op.shift,this]
 ·obtain ⟨h0,h⟩:=chk_iff.1 h
  refine ⟨_,.int k (a / 2 ^ (min b.toNat k.bits)),h,(fun w t=>?_),he,fun S m=>by simp only [CV]; exact ⟨trivial,div_rng _ ha⟩⟩
  have:¬ b < 0:=by omega
  simp only [binOp,Op.shift,this,if_false,Sem.run_pure]
  rw [Int.fdiv_eq_ediv_of_nonneg _ (Int.le_of_lt (Int.pow_pos (by decide)))]
 ·exact h.elim
def takeK:Nat→List AV→(List AV→Prop)→Prop
 | 0,_,k=>k []
 | _+1,[],_=>False
 | n+1,x::xs,k=>takeK n xs fun l=>k (x::l)
theorem takeK_sound:∀ {n:Nat} {xs:List AV} {k:List AV→Prop},takeK n xs k→k (xs.take n)∧n≤xs.length
 | 0,_,_,h=>⟨by simpa [takeK] using h,Nat.zero_le _⟩
 | _+1,[],_,h=>by simp [takeK] at h
 | n+1,x::xs,k,h=>by
  simp only [takeK] at h
  have:=takeK_sound h
  exact ⟨by simpa using this.1,by simp; omega⟩
def headK (xs:List AV) (k:AV→Prop):Prop:=match xs with | x::_=>k x | []=>False
theorem headK_sound {xs:List AV} {k:AV→Prop} (h:headK xs k):∃ x,xs[0]?=some x∧k x:=by
 cases xs with
 | nil=>exact h.elim
 | cons x xs=>exact ⟨x,rfl,h⟩
def isAg (P:Program) (t:TypeId):Bool:=match P.underlying t with | some (.struct _)=>true | some (.array _ _)=>true | _=>false
def partK (P:Program) (t:TypeId) (cs:List AV) (K:AV→Prop):Prop :=
 cond (isAg P t) (match P.info? t with | some i=>takeK i.size cs (fun l=>K (.agg l)) | none=>False) (match P.underlying t with | some _=>headK cs K | none=>False)
theorem run_isAgg {P:Program} {t:TypeId} {d:TypeDesc} (h:P.underlying t=some d) (w:World):(Go.isAgg t).run P w=.ok (isAg P t) w:=by
 unfold Go.isAgg isAg
 simp only [Sem.run_bind,run_underlying h,Result.andThen_ok,h]
 cases d <;> rfl
theorem run_sizeOf {P:Program} {t:TypeId} {i:TypeInfo} (h:P.info? t=some i) (w:World):(Go.sizeOf t).run P w=.ok i.size w:=by
 simp [Go.sizeOf,typeInfo,h]
theorem partK_cases {P:Program} {t:TypeId} {cs:List AV} {K:AV→Prop} (h:partK P t cs K) :
  (∃ d i,P.underlying t=some d∧isAg P t=true∧P.info? t=some i∧i.size≤cs.length∧K (.agg (cs.take i.size)))∨(∃ d x,P.underlying t=some d∧isAg P t=false∧cs[0]?=some x∧K x):=by
 unfold partK at h
 cases hg:isAg P t with
 | true =>
  rw [hg] at h
  simp only [cond_true] at h
  split at h
  ·rename_i i hi
   have:=takeK_sound h
   obtain ⟨d,hd⟩:∃ d,P.underlying t=some d:=by
    cases e:P.underlying t with
    | none=>simp [isAg,e] at hg
    | some d=>exact ⟨d,rfl⟩
   exact .inl ⟨d,i,hd,rfl,hi,this.2,this.1⟩
  ·exact h.elim
 | false =>
  rw [hg] at h
  simp only [cond_false] at h
  split at h
  ·rename_i d hd
   obtain ⟨x,h1,h2⟩:=headK_sound h
   exact .inr ⟨d,x,hd,rfl,h1,h2⟩
  ·exact h.elim
theorem partK_sound {P:Program} {t:TypeId} {cs:List AV} {off:Nat} {K:AV→Prop} (h:partK P t (cs.drop off) K) :
  ∃ r,K r∧∀ (us:Array Value) w S m,CVl S cs m us.toList→∃ v,(part t us off).run P w=.ok v w∧CV S r m v:=by
 rcases partK_cases h with ⟨d,i,h1,h2,h3,h4,h5⟩ | ⟨d,x,h1,h2,h3,h4⟩
 ·refine ⟨_,h5,fun us w S m hc=>⟨.agg (us.extract off (off+i.size)),?_,?_⟩⟩
  ·simp [part,run_isAgg h1,h2,run_sizeOf h3]
  ·simp only [CV]
   refine ⟨_,rfl,?_⟩
   have hl:=hc.len
   refine CVl.mk ?_ fun j x v e1 e2=>?_
   ·simp at h4 ⊢; simp at hl; omega
   ·rw [List.getElem?_take] at e1
    split at e1
    ·rename_i hj
     rw [List.getElem?_drop] at e1
     obtain ⟨v',hv',hx⟩:=hc.get e1
     have:v=v':=by
      simp only [Array.toList_extract,List.extract_eq_take_drop,List.getElem?_take,List.getElem?_drop] at e2
      rw [if_pos (by omega)] at e2
      exact Option.some.inj (e2.symm.trans hv')
     subst this; exact hx
    ·cases e1
 ·refine ⟨x,h4,fun us w S m hc=>?_⟩
  rw [List.getElem?_drop] at h3
  obtain ⟨v,hv,hx⟩:=hc.get h3
  refine ⟨v,?_,hx⟩
  have hv':us[off]?=some v:=by simpa using hv
  simp [part,run_isAgg h1,h2,hv']
end Go.Proofs.YtgbbmadjdaphnaaGreatDoor
namespace Go.Proofs.YtgbbmadjdaphnaaGreatDoor
open Go
set_option linter.unusedVariables false
set_option linter.unusedSimpArgs false
structure TyOK (P:Program) (l:List TypeId):Prop where
 held:∀ t ∈ l,P.stoodInHeld t=false
 guard:∀ t ∈ l,P.eqGuardType P.depth t=false
def inT (t:Nat):List Nat→Bool
 | []=>false
 | j::l=>Nat.beq j t||inT t l
theorem inT_mem {t:Nat}:∀ {l:List Nat},inT t l=true→t ∈ l
 | [],h=>by simp [inT] at h
 | j::l,h=>by
  simp only [inT,Bool.or_eq_true] at h
  rcases h with h | h
  ·rw [Nat.eq_of_beq_eq_true h]; exact List.mem_cons_self
  ·exact List.mem_cons_of_mem _ (inT_mem h)
theorem strEq_dec (a b:ByteArray):(a.toList == b.toList)=decide (a=b):=by
 rw [Bool.eq_iff_iff,beq_iff_eq,decide_eq_true_iff,ByteArray.toList_eq,ByteArray.toList_eq]
 constructor
 ·intro h
  obtain ⟨⟨x⟩⟩:=a
  obtain ⟨⟨y⟩⟩:=b
  simp at h
  rw [h]
 ·rintro rfl; rfl
def eqFs (P:Program) (eq:TypeId→AV→AV→(Bool→Prop)→Prop):List Field→List AV→List AV→(Bool→Prop)→Prop
 | [],_,_,K=>K true
 | f::fs,xs,ys,K =>
  cond (decide (f.name= "_")) (eqFs P eq fs xs ys K)
   (partK P f.type (xs.drop f.offset) fun a=>partK P f.type (ys.drop f.offset) fun b=>eq f.type a b fun r=>eqFs P eq fs xs ys fun r'=>K (r&&r'))
def eqEs (P:Program) (eq:TypeId→AV→AV→(Bool→Prop)→Prop) (e s:Nat):Nat→Nat→List AV→List AV→(Bool→Prop)→Prop
 | 0,_,_,_,K=>K true
 | n+1,i,xs,ys,K =>
   partK P e (xs.drop (i*s)) fun a=>partK P e (ys.drop (i*s)) fun b=>eq e a b fun r=>eqEs P eq e s n (i+1) xs ys fun r'=>K (r&&r')
def eqK (P:Program) (tys:List TypeId):Nat→TypeId→AV→AV→(Bool→Prop)→Prop
 | 0,_,_,_,_=>False
 | d+1,t,x,y,K =>
  match P.underlying t with
  | some .bool=>(match x,y with | .bool a,.bool b=>K (decide (a=b)) | _,_=>False)
  | some (.int _)=>(match x,y with | .int k a,.int k' b=>cond (decide (k=k')) (K (decide (a=b))) False | _,_=>False)
  | some .string=>(match x,y with | .str a,.str b=>K (decide (a=b)) | _,_=>False)
  | some (.struct fs)=>(match x,y with | .agg xs,.agg ys=>cond (inT t tys) (eqFs P (fun t x y K=>eqK P tys d t x y K) fs.toList xs ys K) False | _,_=>False)
  | some (.array n e)=>(match x,y with | .agg xs,.agg ys=>(match P.info? e with | some i=>eqEs P (fun t x y K=>eqK P tys d t x y K) e i.size n 0 xs ys K | none=>False) | _,_=>False)
  | _=>False
def EqSays (P:Program) (f:Nat) (t:TypeId) (x y:AV) (r:Bool):Prop :=
 ∀ (u v:Value) (w:World) (S:Pin) (m m':Nm),CV S x m u→CV S y m' v→(Op.equalIn f t u v).run P w=.ok r w
theorem eqFs_sound {P:Program} {eq:TypeId→AV→AV→(Bool→Prop)→Prop} {f:Nat} (heq:∀ t x y K,eq t x y K→∃ r,K r∧EqSays P f t x y r) :
  ∀ (fs:List Field) (xs ys:List AV) (K:Bool→Prop),eqFs P eq fs xs ys K →
   ∃ r,K r∧∀ (us vs:Array Value) (w:World) (S:Pin) (m m':Nm),CVl S xs m us.toList→CVl S ys m' vs.toList→(Op.eqFields f us vs fs).run P w=.ok r w
 | [],xs,ys,K,h=>⟨true,h,fun us vs w S m m' _ _=>by simp [Op.eqFields]⟩
 | g::fs,xs,ys,K,h=>by
  simp only [eqFs] at h
  by_cases hn:g.name= "_"
  ·rw [decide_eq_true hn] at h
   obtain ⟨r,h1,h2⟩:=eqFs_sound heq fs xs ys K h
   exact ⟨r,h1,fun us vs w S m m' a b=>by simp only [Op.eqFields,hn,ne_eq,not_true_eq_false,if_false]; exact h2 us vs w S m m' a b⟩
  ·rw [decide_eq_false hn] at h
   simp only [cond_false] at h
   obtain ⟨a,h,ha⟩:=partK_sound h
   obtain ⟨b,h,hb⟩:=partK_sound h
   obtain ⟨r,h,hr⟩:=heq _ _ _ _ h
   obtain ⟨r',h,hr'⟩:=eqFs_sound heq fs xs ys _ h
   refine ⟨_,h,fun us vs w S m m' hu hv=>?_⟩
   obtain ⟨u,e1,c1⟩:=ha us w S m hu
   obtain ⟨v,e2,c2⟩:=hb vs w S m' hv
   have e3:=hr u v w S m m' c1 c2
   have e4:=hr' us vs w S m m' hu hv
   simp only [Op.eqFields,hn,ne_eq,not_false_eq_true,if_true,Sem.run_bind,e1,e2,e3,Result.andThen_ok]
   cases r <;> simp [e4]
theorem eqEs_sound {P:Program} {eq:TypeId→AV→AV→(Bool→Prop)→Prop} {f:Nat} (heq:∀ t x y K,eq t x y K→∃ r,K r∧EqSays P f t x y r) (e s:Nat) :
  ∀ (n i:Nat) (xs ys:List AV) (K:Bool→Prop),eqEs P eq e s n i xs ys K →
   ∃ r,K r∧∀ (us vs:Array Value) (w:World) (S:Pin) (m m':Nm),CVl S xs m us.toList→CVl S ys m' vs.toList →
    (forIn (List.range' i n) ((none:Option Bool),()) fun j _=>do
      let a ← part e us (j*s)
      let b ← part e vs (j*s)
      let q ← Op.equalIn f e a b
      if q=false then pure (ForInStep.done (some false,())) else pure (ForInStep.yield (none,()))).run P w=.ok (cond r none (some false),()) w
 | 0,i,xs,ys,K,h=>⟨true,h,fun us vs w S m m' _ _=>by simp⟩
 | n+1,i,xs,ys,K,h=>by
  simp only [eqEs] at h
  obtain ⟨a,h,ha⟩:=partK_sound h
  obtain ⟨b,h,hb⟩:=partK_sound h
  obtain ⟨r,h,hr⟩:=heq _ _ _ _ h
  obtain ⟨r',h,hr'⟩:=eqEs_sound heq e s n (i+1) xs ys _ h
  refine ⟨_,h,fun us vs w S m m' hu hv=>?_⟩
  obtain ⟨u,e1,c1⟩:=ha us w S m hu
  obtain ⟨v,e2,c2⟩:=hb vs w S m' hv
  have e3:=hr u v w S m m' c1 c2
  have e4:=hr' us vs w S m m' hu hv
  simp only [List.range'_succ,List.forIn_cons,Sem.run_bind,e1,e2,e3,Result.andThen_ok,Sem.run_ite,Sem.run_pure]
  cases r
  ·simp
  ·simp only [Bool.true_eq_false,if_false,Result.andThen_ok,Bool.true_and]
   exact e4
theorem eqK_sound {P:Program} {tys:List TypeId} (hT:TyOK P tys):∀ (d:Nat) (f:Nat) (t:TypeId) (x y:AV) (K:Bool→Prop),d≤f→eqK P tys d t x y K→∃ r,K r∧EqSays P f t x y r
 | 0,_,_,_,_,_,_,h=>by simp [eqK] at h
 | d+1,0,_,_,_,_,hl,_=>by omega
 | d+1,f+1,t,x,y,K,hl,h=>by
  simp only [eqK] at h
  have ih:=fun t x y K=>eqK_sound hT d f t x y K (by omega)
  split at h
  ·rename_i hd
   split at h
   ·refine ⟨_,h,fun u v w S m m' hu hv=>?_⟩
    simp only [CV] at hu hv
    subst hu hv
    rw [run_equalIn_bool w f t _ _ hd]; rfl
   ·exact h.elim
  ·rename_i kk hd
   split at h
   ·rename_i k a k' b
    by_cases hk:k=k'
    ·rw [decide_eq_true hk] at h
     refine ⟨_,h,fun u v w S m m' hu hv=>?_⟩
     simp only [CV] at hu hv
     obtain ⟨rfl,_⟩:=hu
     obtain ⟨rfl,_⟩:=hv
     subst hk
     rw [run_equalIn_int w f t _ _ _ _ hd]; rfl
    ·rw [decide_eq_false hk] at h; exact h.elim
   ·exact h.elim
  ·rename_i hd
   split at h
   ·refine ⟨_,h,fun u v w S m m' hu hv=>?_⟩
    simp only [CV] at hu hv
    obtain ⟨rfl,_⟩:=hu
    obtain ⟨rfl,_⟩:=hv
    rw [run_equalIn_string w f t _ _ hd,strEq_dec]
   ·exact h.elim
  ·rename_i fs hd
   split at h
   ·rename_i xs ys
    obtain ⟨hin,h⟩:=cond_F h
    obtain ⟨r,h1,h2⟩:=eqFs_sound (f:=f) ih _ _ _ _ h
    refine ⟨r,h1,fun u v w S m m' hu hv=>?_⟩
    simp only [CV] at hu hv
    obtain ⟨us,rfl,hu⟩:=hu
    obtain ⟨vs,rfl,hv⟩:=hv
    have hfs:P.fieldsOf t=fs:=by simp [Program.fieldsOf,hd]
    rw [run_equalIn_struct w f t us vs (by rw [hfs]; exact hd) (hT.held t (inT_mem hin)),hfs]
    exact h2 us vs w S m m' hu hv
   ·exact h.elim
  ·rename_i n e hd
   split at h
   ·rename_i xs ys
    split at h
    ·rename_i i hi
     obtain ⟨r,h1,h2⟩:=eqEs_sound (f:=f) ih e i.size n 0 _ _ _ h
     refine ⟨r,h1,fun u v w S m m' hu hv=>?_⟩
     simp only [CV] at hu hv
     obtain ⟨us,rfl,hu⟩:=hu
     obtain ⟨vs,rfl,hv⟩:=hv
     simp only [Op.equalIn,Sem.run_bind,run_underlying hd,Result.andThen_ok,sizeOf,typeInfo,run_program,hi]
     simp only [Sem.run_pure,Result.andThen_ok]
     have h3:=h2 us vs w S m m' hu hv
     simp
     rw [h3]
     cases r <;> simp
    ·exact h.elim
   ·exact h.elim
  ·exact h.elim
def PG (P:Program) (o:Oper) (ev:Operand→AV) (r:AV):Prop :=
 ∀ (a:Act) (w:World) (S:Pin) (m:Nm),(∀ x ∈ o.op.operands,CV S (ev x) m (a.eval x))→∃ v,(execOp a.eval o).run P w=.ok (.value v) w∧CV S r m v
def strop (op:BinOp) (a b:ByteArray) (K:AV→Prop):Prop :=
 match op with
 | .add=>chk (a.size+b.size≤9223372036854775807) (K (.str (a++b)))
 | .eql=>K (.bool (decide (a=b)))
 | .neq=>K (.bool (!(decide (a=b))))
 | .lss=>K (.bool (Op.bytesLess a.toList b.toList))
 | .leq=>K (.bool (Op.bytesLess a.toList b.toList||decide (a=b)))
 | .gtr=>K (.bool (!(Op.bytesLess a.toList b.toList||decide (a=b))))
 | .geq=>K (.bool (!(Op.bytesLess a.toList b.toList)))
 | _=>False
def abin (P:Program) (E:Env) (tys:List TypeId) (op:BinOp) (t:TypeId) (x y:AV) (K:AV→Prop):Prop :=
  match x,y with
  | .int k a,.int k' b =>
    (match op with
     | .shl=>shop E op k a b K
     | .shr=>shop E op k a b K
     | _=>cond (decide (k=k')) (intop E op k a b K) False)
  | .bool a,.bool b =>
    (match op,P.underlying t with
     | .eql,some .bool=>K (.bool (decide (a=b)))
     | .neq,some .bool=>K (.bool (!(decide (a=b))))
     | _,_=>False)
  | .str a,.str b=>strop op a b K
  | .agg xs,.agg ys =>
    (match op with
     | .eql=>cond (inT t tys) (eqK P tys 50 t (.agg xs) (.agg ys) fun r=>K (.bool r)) False
     | .neq=>cond (inT t tys) (eqK P tys 50 t (.agg xs) (.agg ys) fun r=>K (.bool (!r))) False
     | _=>False)
  | _,_=>False
theorem shop_ex {E:Env} {op:BinOp} {k:IntKind} {a b:Int} {K:AV→Prop} (h:shop E op k a b K):∃ r,K r:=by
 unfold shop at h
 split at h
 ·obtain ⟨_,h1⟩:=chk_iff.1 h; obtain ⟨z,h2,_⟩:=ar_sound h1; exact ⟨_,h2⟩
 ·obtain ⟨_,h1⟩:=chk_iff.1 h; exact ⟨_,h1⟩
 ·exact h.elim
theorem intop_ex {E:Env} {op:BinOp} {k:IntKind} {a b:Int} {K:AV→Prop} (h:intop E op k a b K):∃ r,K r:=by
 unfold intop at h
 split at h
 ·obtain ⟨z,h2,_⟩:=ar_sound h; exact ⟨_,h2⟩
 ·obtain ⟨z,h2,_⟩:=ar_sound h; exact ⟨_,h2⟩
 ·obtain ⟨z,h2,_⟩:=ar_sound h; exact ⟨_,h2⟩
 ·obtain ⟨_,h1⟩:=chk_iff.1 h; obtain ⟨z,h2,_⟩:=ar_sound h1; exact ⟨_,h2⟩
 ·obtain ⟨_,h1⟩:=chk_iff.1 h; exact ⟨_,h1⟩
 all_goals first | exact ⟨_,h⟩ | exact h.elim
theorem abin_sound {P:Program} {E:Env} {tys:List TypeId} (hT:TyOK P tys) {op:BinOp} {t:TypeId} {x y:AV} {K:AV→Prop} (h:abin P E tys op t x y K) :
  ∃ r,K r∧∀ (u v:Value) (w:World) (S:Pin) (m:Nm) (p q:Operand),CV S x m u→CV S y m v→∃ z,(eqGuard op t p q u v).run P w=.ok () w∧(binOp op t u v).run P w=.ok z w∧CV S r m z:=by
 unfold abin at h
 split at h
 ·rename_i k a k' b
  have conv:(∃ r v,K r∧(∀ w t,(binOp op t (.int k a) (.int k' b)).run P w=.ok v w)∧(∀ t x y w,(eqGuard op t x y (.int k a) (.int k' b)).run P w=.ok () w)∧∀ S m,CV S r m v) →
    ∃ r,K r∧∀ (u v:Value) (w:World) (S:Pin) (m:Nm) (p q:Operand),CV S (.int k a) m u→CV S (.int k' b) m v→∃ z,(eqGuard op t p q u v).run P w=.ok () w∧(binOp op t u v).run P w=.ok z w∧CV S r m z:=by
   rintro ⟨r,v,h1,h2,h3,h4⟩
   refine ⟨r,h1,fun u z w S m p q hu hv=>?_⟩
   simp only [CV] at hu hv
   obtain ⟨rfl,_⟩:=hu
   obtain ⟨rfl,_⟩:=hv
   exact ⟨v,h3 t p q w,h2 w t,h4 S m⟩
  have no:(∃ r,K r)→¬ (rng k a∧rng k' b)→∃ r,K r∧∀ (u v:Value) (w:World) (S:Pin) (m:Nm) (p q:Operand),CV S (.int k a) m u→CV S (.int k' b) m v→∃ z,(eqGuard op t p q u v).run P w=.ok () w∧(binOp op t u v).run P w=.ok z w∧CV S r m z:=by
   rintro ⟨r,hr⟩ hn
   exact ⟨r,hr,fun u v w S m p q hu hv=>by simp only [CV] at hu hv; exact absurd ⟨hu.2,hv.2⟩ hn⟩
  split at h
  ·by_cases hr:rng k a∧rng k' b
   ·exact conv (shop_sound hr.1 h)
   ·exact no (shop_ex h) hr
  ·by_cases hr:rng k a∧rng k' b
   ·exact conv (shop_sound hr.1 h)
   ·exact no (shop_ex h) hr
  ·obtain ⟨hk,h'⟩:=cond_F h
   have hk':=of_decide_eq_true hk
   subst hk'
   by_cases hr:rng k a∧rng k b
   ·exact conv (intop_sound hr.1 hr.2 h')
   ·exact no (intop_ex h') hr
 ·rename_i a b
  split at h
  ·rename_i hd
   refine ⟨_,h,fun u v w S m p q hu hv=>?_⟩
   simp only [CV] at hu hv
   subst hu hv
   exact ⟨.bool (decide (a=b)),by rfl,by simp [binOp,run_equal_bool w t a b hd]; rfl,by simp only [CV]⟩
  ·rename_i hd
   refine ⟨_,h,fun u v w S m p q hu hv=>?_⟩
   simp only [CV] at hu hv
   subst hu hv
   exact ⟨.bool (!(decide (a=b))),by rfl,by simp [binOp,run_equal_bool w t a b hd]; cases a <;> cases b <;> rfl,by simp only [CV]⟩
  ·exact h.elim
 ·rename_i a b
  unfold strop at h
  split at h
  case h_1 =>
   obtain ⟨h0,h⟩:=chk_iff.1 h
   refine ⟨_,h,fun u v w S m p q hu hv=>?_⟩
   simp only [CV] at hu hv
   obtain ⟨rfl,_⟩:=hu
   obtain ⟨rfl,_⟩:=hv
   refine ⟨.string (a++b),by rfl,?_,by simp only [CV]; exact ⟨trivial,by unfold maxLen; simp; omega⟩⟩
   have:¬ (((a.size+b.size:Nat):Int) > IntKind.i64.max):=by simp [IntKind.max,IntKind.signed,IntKind.bits]; omega
   simp only [binOp,Op.stringOp,this,if_false,Sem.run_pure]
  case h_8=>exact h.elim
  all_goals
   refine ⟨_,h,fun u v w S m p q hu hv=>?_⟩
   simp only [CV] at hu hv
   obtain ⟨rfl,_⟩:=hu
   obtain ⟨rfl,_⟩:=hv
   refine ⟨_,by rfl,by simp only [binOp,Op.stringOp,Sem.run_pure,strEq_dec]; rfl,by simp only [CV]⟩
 ·rename_i xs ys
  have G:∀ (p q:Operand) (u v:Value) (w:World) (S:Pin) (m:Nm) ,inT t tys=true→CV S (.agg xs) m u→CV S (.agg ys) m v→(op=.eql∨op=.neq)→(eqGuard op t p q u v).run P w=.ok () w:=by
   intro p q u v w S m hin hu hv ho
   simp only [CV] at hu hv
   obtain ⟨us,rfl,_⟩:=hu
   obtain ⟨vs,rfl,_⟩:=hv
   have hg:=hT.guard t (inT_mem hin)
   rcases ho with rfl | rfl <;> simp [eqGuard,hg]
  split at h
  ·obtain ⟨hin,h⟩:=cond_F h
   obtain ⟨r,h1,h2⟩:=eqK_sound hT 50 10000 t _ _ _ (by omega) h
   refine ⟨_,h1,fun u v w S m p q hu hv=>⟨.bool r,G p q u v w S m hin hu hv (.inl rfl),?_,by simp only [CV]⟩⟩
   have e:=h2 u v w S m m hu hv
   simp only [CV] at hu hv
   obtain ⟨us,rfl,_⟩:=hu
   obtain ⟨vs,rfl,_⟩:=hv
   rw [run_eql_struct,e]; rfl
  ·obtain ⟨hin,h⟩:=cond_F h
   obtain ⟨r,h1,h2⟩:=eqK_sound hT 50 10000 t _ _ _ (by omega) h
   refine ⟨_,h1,fun u v w S m p q hu hv=>⟨.bool (!r),G p q u v w S m hin hu hv (.inr rfl),?_,by simp only [CV]⟩⟩
   have e:=h2 u v w S m m hu hv
   simp only [CV] at hu hv
   obtain ⟨us,rfl,_⟩:=hu
   obtain ⟨vs,rfl,_⟩:=hv
   rw [run_neq_struct,e]; rfl
  ·exact h.elim
 ·exact h.elim
end Go.Proofs.YtgbbmadjdaphnaaGreatDoor
namespace Go.Proofs.YtgbbmadjdaphnaaGreatDoor
open Go
set_option linter.unusedVariables false
set_option linter.unusedSimpArgs false
theorem add_none (g o n:Nat):(⟨g,o,none⟩:Addr).add n=⟨g,o+n,none⟩:=by
 unfold Addr.add
 by_cases h:n=0
 ·simp [h]
 ·simp [h]
def spl {α:Type} (cs:List α) (off:Nat) (ys:List α):List α:=cs.take off++ys++cs.drop (off+ys.length)
theorem spl_len {α:Type} {cs ys:List α} {off:Nat} (h:off+ys.length≤cs.length):(spl cs off ys).length=cs.length:=by
 unfold spl; simp; omega
theorem spl_get {α:Type} {cs ys:List α} {off:Nat} (h:off+ys.length≤cs.length) (j:Nat) :
  (spl cs off ys)[j]?=if off≤j∧j < off+ys.length then ys[j - off]? else cs[j]?:=by
 unfold spl
 rw [List.append_assoc]
 by_cases h1:j < off
 ·rw [List.getElem?_append_left (by simp; omega),List.getElem?_take,if_pos h1,if_neg (by omega)]
 ·have hl:(cs.take off).length=off:=by simp; omega
  rw [List.getElem?_append_right (by omega),hl]
  by_cases h2:j < off+ys.length
  ·rw [List.getElem?_append_left (by omega),if_pos ⟨by omega,h2⟩]
  ·rw [List.getElem?_append_right (by omega),List.getElem?_drop,if_neg (by omega)]
   congr 1; omega
def splK:List AV→Nat→List AV→(List AV→Prop)→Prop
 | cs,0,[],k=>k cs
 | _::cs,0,y::ys,k=>splK cs 0 ys fun l=>k (y::l)
 | x::cs,n+1,ys,k=>splK cs n ys fun l=>k (x::l)
 | [],0,_::_,_=>False
 | [],_+1,ys,k=>match ys with | []=>False | _=>False
theorem splK_sound:∀ {cs:List AV} {off:Nat} {ys:List AV} {k:List AV→Prop},splK cs off ys k→k (spl cs off ys)∧off+ys.length≤cs.length
 | cs,0,[],k,h=>by
  unfold splK at h
  exact ⟨by simpa [spl] using h,by simp⟩
 | x::cs,0,y::ys,k,h=>by
  unfold splK at h
  have:=splK_sound h
  refine ⟨by simpa [spl,Nat.add_comm] using this.1,by simp at this ⊢; omega⟩
 | x::cs,n+1,ys,k,h=>by
  unfold splK at h
  have:=splK_sound h
  refine ⟨?_,by simp at this ⊢; omega⟩
  have e:n+1+ys.length=(n+ys.length)+1:=by omega
  simpa [spl,e] using this.1
 | [],0,_::_,_,h=>by unfold splK at h; exact h.elim
 | [],n+1,ys,_,h=>by unfold splK at h; cases ys <;> exact h.elim
theorem CVl.spl {S:Pin} {cs ys:List AV} {m:Nm} {us vs:List Value} {off:Nat} (h:CVl S cs m us) (k:CVl S ys m vs) (hl:off+ys.length≤cs.length):CVl S (spl cs off ys) m (spl us off vs):=by
 have l1:=h.len
 have l2:=k.len
 refine CVl.mk (by rw [spl_len hl,spl_len (by omega)]; exact l1) fun j x v e1 e2=>?_
 rw [spl_get hl] at e1
 rw [spl_get (by omega),l2] at e2
 by_cases hj:off≤j∧j < off+ys.length
 ·rw [if_pos hj] at e1 e2
  obtain ⟨v',hv',hx⟩:=k.get e1
  rw [e2] at hv'
  injection hv' with hv'
  subst hv'; exact hx
 ·rw [if_neg hj] at e1 e2
  obtain ⟨v',hv',hx⟩:=h.get e1
  rw [e2] at hv'
  injection hv' with hv'
  subst hv'; exact hx
def cellsA:AV→List AV
 | .agg cs=>cs
 | x=>[x]
def oneA:AV→Bool
 | .agg _=>false
 | .tup _=>false
 | .undef=>false
 | .dead=>false
 | _=>true
def allOne:List AV→Bool
 | []=>true
 | x::xs=>oneA x&&allOne xs
theorem oneA_cv {S:Pin} {m:Nm} {x:AV} {v:Value} (h:CV S x m v) (k:oneA x=true):v.oneCell'=true∧v.cells=#[v]:=by
 cases x <;> simp only [oneA,Bool.false_eq_true] at k <;> simp only [CV] at h
 case int=>obtain ⟨rfl,_⟩:=h; exact ⟨rfl,rfl⟩
 case bool=>subst h; exact ⟨rfl,rfl⟩
 case str=>obtain ⟨rfl,_⟩:=h; exact ⟨rfl,rfl⟩
 case mpv=>obtain ⟨g,_,rfl⟩:=h; exact ⟨rfl,rfl⟩
 case sl=>obtain ⟨A,c,rfl,_⟩:=h; exact ⟨rfl,rfl⟩
 case nils=>subst h; exact ⟨rfl,rfl⟩
 case ro=>obtain ⟨b,o,rfl,_⟩:=h; exact ⟨rfl,rfl⟩
 case nilp=>subst h; exact ⟨rfl,rfl⟩
 case fn=>obtain ⟨us,rfl,_⟩:=h; exact ⟨rfl,rfl⟩
 case ptr=>obtain ⟨g,_,rfl⟩:=h; exact ⟨rfl,rfl⟩
 case acc=>obtain ⟨⟨A,c,rfl,_⟩,_⟩:=h; exact ⟨rfl,rfl⟩
 case ms=>obtain ⟨g,o,_,rfl,_⟩:=h; exact ⟨rfl,rfl⟩
 case rw=>obtain ⟨⟨A,c,rfl,_⟩,_⟩:=h; exact ⟨rfl,rfl⟩
 case mw=>obtain ⟨A,c,rfl,_⟩:=h; exact ⟨rfl,rfl⟩
 case prw=>obtain ⟨a,rfl,_⟩:=h; exact ⟨rfl,rfl⟩
 case frz=>obtain ⟨⟨A,c,rfl⟩,_⟩:=h; exact ⟨rfl,rfl⟩
theorem allOne_cv {S:Pin} {m:Nm}:∀ {xs:List AV} {vs:List Value},CVl S xs m vs→allOne xs=true→∀ v ∈ vs,v.oneCell'=true
 | [],vs,h,_=>by simp only [CVl] at h; subst h; simp
 | x::xs,vs,h,k=>by
  simp only [CVl] at h
  obtain ⟨u,us,rfl,h1,h2⟩:=h
  simp only [allOne,Bool.and_eq_true] at k
  intro v hv
  rcases List.mem_cons.1 hv with rfl | hv
  ·exact (oneA_cv h1 k.1).1
  ·exact allOne_cv h2 k.2 v hv
theorem cellsA_cv {S:Pin} {m:Nm} {x:AV} {v:Value} (h:CV S x m v) (k:allOne (cellsA x)=true):CVl S (cellsA x) m v.cells.toList∧∀ u ∈ v.cells.toList,u.oneCell'=true:=by
 have key:CVl S (cellsA x) m v.cells.toList:=by
  cases x
  case agg cs =>
   simp only [CV] at h
   obtain ⟨us,rfl,h⟩:=h
   exact h
  all_goals
   have h':=oneA_cv h (by simpa [cellsA,allOne] using k)
   rw [h'.2]
   simp only [cellsA,CVl]
   exact ⟨v,[],rfl,h,rfl⟩
 exact ⟨key,allOne_cv key k⟩
def zeroA (P:Program) (t:TypeId) (K:List AV→Prop):Prop :=
 match P.info? t with
 | some i=>(match i.zero with | some z=>K (ofVs z.cells.toList) | none=>False)
 | none=>False
theorem zeroA_sound {P:Program} {t:TypeId} {K:List AV→Prop} (h:zeroA P t K):∃ i z,P.info? t=some i∧i.zero=some z∧K (ofVs z.cells.toList)∧∀ w,(zeroValue t).run P w=.ok z w:=by
 unfold zeroA at h
 split at h
 ·rename_i i hi
  split at h
  ·rename_i z hz
   exact ⟨i,z,hi,hz,h,fun w=>by simp [zeroValue,typeInfo,hi,hz]⟩
  ·exact h.elim
 ·exact h.elim
def fillK (place:Nat→Option (Nat × Nat)):List AV→List (Nat × AV)→(List AV→Prop)→Prop
 | cs,[],k=>k cs
 | cs,(i,x)::ps,k=>match place i with
  | some (off,size)=>forceA x fun x=>cond (Nat.beq (cellsA x).length size&&allOne (cellsA x)) (splK cs off (cellsA x) fun cs'=>fillK place cs' ps k) False
  | none=>False
theorem foldl_spl (vs:List Value) (off:Nat):∀ (j:Nat) (cs:Array Value),off+j+vs.length≤cs.size →
  ((vs.zipIdx j).foldl (fun cs (p:Value × Nat)=>cs.setIfInBounds (off+p.2) p.1) cs).toList=spl cs.toList (off+j) vs:=by
 induction vs with
 | nil=>intro j cs _; simp [spl]
 | cons v vs ih =>
  intro j cs h
  simp only [List.zipIdx_cons,List.foldl_cons]
  simp only [List.length_cons] at h
  rw [ih (j+1) _ (by simp; omega)]
  refine List.ext_getElem? fun q=>?_
  have hl:(cs.setIfInBounds (off+j) v).toList.length=cs.toList.length:=by simp
  rw [spl_get (by rw [hl]; simp; omega),spl_get (by simp; omega)]
  simp only [List.length_cons]
  by_cases h1:q=off+j
  ·subst h1
   rw [if_neg (by omega),if_pos (by omega)]
   have h3:off+j < cs.size:=by omega
   simp [h3]
  ·by_cases h2:off+j≤q∧q < off+j+(vs.length+1)
   ·rw [if_pos (by omega),if_pos h2,show q - (off+j)=(q - (off+(j+1)))+1 by omega]
    simp
   ·rw [if_neg (by omega),if_neg h2]
    simp only [Array.getElem?_toList]
    rw [Array.getElem?_setIfInBounds_ne (fun e=>h1 e.symm)]
theorem fillK_sound {place:Nat→Option (Nat × Nat)}:∀ (ps:List (Nat × AV)) (cs:List AV) (k:List AV→Prop),fillK place cs ps k →
  ∃ r,k r∧∀ (S:Pin) (m:Nm) (us:Array Value) (vs:List (Nat × Value)),CVl S cs m us.toList→vs.length=ps.length→(∀ (j:Nat) (p:Nat × AV) (q:Nat × Value),ps[j]?=some p→vs[j]?=some q→q.1=p.1∧CV S p.2 m q.2) →
   ∃ out,Instr.fill place us vs=some out∧CVl S r m out.toList
 | [],cs,k,h=>⟨cs,h,fun S m us vs hu hl _=>by
   have:vs=[]:=List.eq_nil_of_length_eq_zero (by simpa using hl)
   subst this
   exact ⟨us,rfl,hu⟩⟩
 | (i,x)::ps,cs,k,h=>by
  simp only [fillK] at h
  split at h
  ·rename_i off size hp
   rw [forceA_eq] at h
   obtain ⟨hb,h⟩:=cond_F h
   simp only [Bool.and_eq_true] at hb
   have hsz:=Nat.eq_of_beq_eq_true hb.1
   obtain ⟨h1,h2⟩:=splK_sound h
   obtain ⟨r,hr,hh⟩:=fillK_sound ps _ k h1
   refine ⟨r,hr,fun S m us vs hu hl hv=>?_⟩
   cases vs with
   | nil=>simp at hl
   | cons q vs =>
    obtain ⟨i',v⟩:=q
    obtain ⟨e,hx⟩:=hv 0 _ _ rfl rfl
    simp only at e hx
    subst e
    obtain ⟨hc,_⟩:=cellsA_cv hx hb.2
    have hcl:=hc.len
    have hul:=hu.len
    simp only [Array.length_toList] at hcl hul
    simp only [Instr.fill,hp]
    rw [if_neg (by simp; omega)]
    have hf:=foldl_spl v.cells.toList off 0 us (by simp; omega)
    have hf':(v.cells.zipIdx.foldl (fun cs (p:Value × Nat)=>cs.setIfInBounds (off+p.2) p.1) us).toList=spl us.toList off v.cells.toList:=by
     rw [← Array.foldl_toList,Array.toList_zipIdx]; simpa using hf
    exact hh S m _ vs (by rw [hf']; exact hu.spl hc h2) (by simpa using hl) (fun j p q e1 e2=>hv (j+1) p q (by simpa using e1) (by simpa using e2))
  ·exact h.elim
def bldK (P:Program) (t:TypeId) (parts:List (Nat × AV)) (K:AV→Prop):Prop :=
 match P.info? t,P.underlying t with
 | some it,some (.array _ e) =>
  (match it.zero,P.info? e with
  | some z,some ie=>fillK (fun i=>some (i*ie.size,ie.size)) (ofVs z.cells.toList) parts fun cs=>K (.agg cs)
  | _,_=>False)
 | some it,some (.struct fields) =>
  (match it.zero,fields.toList.mapM (fun f=>(P.info? f.type).map fun i=>(f.offset,i.size)) with
  | some z,some places=>fillK (fun i=>places[i]?) (ofVs z.cells.toList) parts fun cs=>K (.agg cs)
  | _,_=>False)
 | _,_=>False
theorem bldK_sound {P:Program} {t:TypeId} {ps:List (Nat × AV)} {K:AV→Prop} (h:bldK P t ps K) :
  ∃ r,K r∧∀ (S:Pin) (m:Nm) (w:World) (vs:Array (Nat × Value)),vs.size=ps.length→(∀ (j:Nat) (p:Nat × AV) (q:Nat × Value),ps[j]?=some p→vs.toList[j]?=some q→q.1=p.1∧CV S p.2 m q.2) →
   ∃ v,(Instr.build t vs).run P w=.ok v w∧CV S r m v:=by
 unfold bldK at h
 split at h
 ·rename_i it n e hi hu
  split at h
  ·rename_i z ie hz hie
   obtain ⟨r,hr,hh⟩:=fillK_sound ps _ _ h
   refine ⟨_,hr,fun S m w vs hl hv=>?_⟩
   obtain ⟨out,ho,hc⟩:=hh S m z.cells vs.toList (ofVs_cv S m _) (by simpa using hl) hv
   exact ⟨.agg out,run_build w t vs out (by unfold Program.built; simp only [hi,hu,hz,hie]; exact ho),by simp only [CV]; exact ⟨out,rfl,hc⟩⟩
  ·exact h.elim
 ·rename_i it fields hi hu
  split at h
  ·rename_i z places hz hp
   obtain ⟨r,hr,hh⟩:=fillK_sound ps _ _ h
   refine ⟨_,hr,fun S m w vs hl hv=>?_⟩
   obtain ⟨out,ho,hc⟩:=hh S m z.cells vs.toList (ofVs_cv S m _) (by simpa using hl) hv
   exact ⟨.agg out,run_build w t vs out (by unfold Program.built; simp only [hi,hu,hz,hp]; simpa using ho),by simp only [CV]; exact ⟨out,rfl,hc⟩⟩
  ·exact h.elim
 ·exact h.elim
end Go.Proofs.YtgbbmadjdaphnaaGreatDoor
namespace Go.Proofs.YtgbbmadjdaphnaaGreatDoor
open Go
set_option linter.unusedVariables false
set_option linter.unusedSimpArgs false
def viewS:AV→(Nat→Bool→List (List AV)→Prop)→Prop
 | .sl s f xs,k=>k s f xs
 | .acc _ s xs,k=>k s false xs
 | .frz _ s n xs,k=>cond (decide (n=xs.length)) (k s false xs) False
 | _,_=>False
theorem viewS_sound {x:AV} {k:Nat→Bool→List (List AV)→Prop} (h:viewS x k):∃ s f xs,k s f xs∧∀ S m v,CV S x m v →
  ∃ A c,v=.slice A xs.length c∧xs.length≤c∧c≤maxLen∧(f=true→c=xs.length)∧(A=none→c=0)∧(∀ a,A=some a→(c≠0→a.spot=none)∧CE S xs s a.block a.off):=by
 cases x <;> simp only [viewS] at h
 case sl s f xs=>exact ⟨s,f,xs,h,fun S m v hv=>by simpa only [CV] using hv⟩
 case acc i s xs =>
  refine ⟨s,false,xs,h,fun S m v hv=>?_⟩
  simp only [CV] at hv
  obtain ⟨⟨A,c,e,h1,h2,h3,h4⟩,_⟩:=hv
  exact ⟨A,c,e,h1,h2,(fun e=>by cases e),h3,h4⟩
 case frz i s n xs =>
  obtain ⟨hn,h'⟩:=cond_F h
  refine ⟨s,false,xs,h',fun S m v hv=>?_⟩
  simp only [CV] at hv
  obtain ⟨⟨A,c,e,h1,h2,h3,h4⟩,_⟩:=hv.2 (of_decide_eq_true hn)
  exact ⟨A,c,e,h1,h2,(fun e=>by cases e),h3,h4⟩
def intK:AV→(Int→Prop)→Prop
 | .int _ i,k=>k i
 | _,_=>False
theorem intK_sound {x:AV} {k:Int→Prop} (h:intK x k):∃ i,k i∧∀ S m v,CV S x m v→∃ q,v=.int q i:=by
 cases x <;> simp only [intK] at h
 case int q i=>exact ⟨i,h,fun S m v hv=>by simp only [CV] at hv; exact ⟨q,hv.1⟩⟩
def optK:Option AV→Int→(Int→Prop)→Prop
 | none,d,k=>k d
 | some x,_,k=>intK x k
theorem optK_sound {x:Option AV} {d:Int} {k:Int→Prop} (h:optK x d k):∃ i,k i∧(x=none→i=d)∧∀ y,x=some y→∀ S m v,CV S y m v→∃ q,v=.int q i:=by
 cases x with
 | none=>exact ⟨d,h,fun _=>rfl,fun y e=>by cases e⟩
 | some y =>
  obtain ⟨i,h1,h2⟩:=intK_sound h
  exact ⟨i,h1,(fun e=>by cases e),fun z e=>by injection e with e; subst e; exact h2⟩
theorem run_bounds {P:Program} {b:Bool} {n c:Nat} {lo hi:Option Value} {l h:Int} (w:World) (h1:0≤h∧h≤c) (h2:0≤l∧l≤h)
  (hl:(lo=none∧l=0)∨∃ q,lo=some (.int q l)) (hh:(hi=none∧h=n)∨∃ q,hi=some (.int q h)) :
  (Instr.sliceBounds b n c lo hi none).run P w=.ok (l.toNat,h.toNat,c) w:=by
 unfold Instr.sliceBounds
 rcases hh with ⟨rfl,e⟩ | ⟨q,rfl⟩
 ·subst e
  rcases hl with ⟨rfl,rfl⟩ | ⟨q,rfl⟩
  ·simp
  ·simp [run_sliceBound _ q l n _ h2.1 h2.2]
 ·have e1:=fun w code=>run_sliceBound (P:=P) w q h c code h1.1 h1.2
  rcases hl with ⟨rfl,rfl⟩ | ⟨q',rfl⟩
  ·simp [e1]
  ·have e2:=fun w code=>run_sliceBound (P:=P) w q' l h.toNat code h2.1 (by omega)
   simp [e1,e2]
theorem run_bounds3 {P:Program} {b:Bool} {n c:Nat} {lo:Option Value} {l h:Int} {q1 q2:IntKind} (w:World) (h1:0≤h∧h≤c) (h2:0≤l∧l≤h)
  (hl:(lo=none∧l=0)∨∃ q,lo=some (.int q l)) :
  (Instr.sliceBounds b n c lo (some (.int q1 h)) (some (.int q2 h))).run P w=.ok (l.toNat,h.toNat,h.toNat) w:=by
 unfold Instr.sliceBounds
 have e1:=fun w code=>run_sliceBound (P:=P) w q2 h c code h1.1 h1.2
 have e3:=fun w code=>run_sliceBound (P:=P) w q1 h h.toNat code h1.1 (by omega)
 rcases hl with ⟨rfl,rfl⟩ | ⟨q',rfl⟩
 ·simp [e1,e3]
 ·have e2:=fun w code=>run_sliceBound (P:=P) w q' l h.toNat code h2.1 (by omega)
  simp [e1,e2,e3]
def viewR:AV→(Nat→Nat→Nat→Nat→Nat→Bool→Prop)→Prop
 | .rw k s n,c=>c k s n 0 n false
 | .mw k s q eo n f,c=>c k s q eo n f
 | _,_=>False
theorem viewR_sound {x:AV} {K:Nat→Nat→Nat→Nat→Nat→Bool→Prop} (h:viewR x K):∃ k s q eo n f,K k s q eo n f∧∀ S m v,CV S x m v→CV S (.mw k s q eo n f) m v:=by
 cases x <;> simp only [viewR] at h
 case rw k s n =>
  refine ⟨k,s,n,0,n,false,h,fun S m v hv=>?_⟩
  simp only [CV] at hv ⊢
  obtain ⟨⟨A,c,e,h1,h2,h3,h4⟩,A1,q1,c1,h5,h6,h7⟩:=hv
  refine ⟨A,c,e,h1,h2,h3,fun a ha=>(by obtain ⟨g,e⟩:=h4 a ha; rw [e]),(fun e=>by cases e),A1,q1,c1,h5,h6,fun hq hc=>?_⟩
  have hv':=h7 hq
  rw [e] at hv'
  injection hv' with e1 _ _
  subst e1
  cases A with
  | none=>exact absurd (h3 rfl) hc
  | some a =>
   obtain ⟨g,e⟩:=h4 a rfl
   subst e
   exact ⟨g,rfl,by simp⟩
 case mw k s q eo n f=>exact ⟨k,s,q,eo,n,f,h,fun S m v hv=>hv⟩
def isRow:AV→Bool
 | .rw _ _ _=>true
 | .mw _ _ _ _ _ _=>true
 | _=>false
def asli (P:Program) (t:TypeId) (x:AV) (lo hi mx:Option AV) (K:AV→Prop):Prop :=
  match P.underlying t with
  | some .string=>(match x,mx with
    | .str s,none=>optK hi s.size fun h=>chk (0≤h∧h≤s.size) (optK lo 0 fun l=>chk (0≤l∧l≤h) (K (.str (s.extract l.toNat h.toNat))))
    | _,_=>False)
  | some (.slice e)=>(match P.info? e,isRow x with
    | some i,true=>viewR x fun k s q eo n f=>cond (Nat.beq i.size s)
      (match mx with
       | none=>optK hi n fun h=>chk (0≤h∧h≤n) (optK lo 0 fun l=>chk (0≤l∧l≤h) (K (.mw k s q (eo+l.toNat) (h.toNat - l.toNat) (f&&hi.isNone))))
       | some mv=>intK mv fun mm=>optK hi (-1) fun h=>chk (h=mm) (chk (0≤h∧h≤n) (optK lo 0 fun l=>chk (0≤l∧l≤h) (K (.mw k s q (eo+l.toNat) (h.toNat - l.toNat) true))))) False
    | some i,false=>viewS x fun s f xs=>cond (Nat.beq i.size s)
      (match mx with
       | none=>optK hi xs.length fun h=>chk (0≤h∧h≤xs.length) (optK lo 0 fun l=>chk (0≤l∧l≤h) (K (.sl s (f&&hi.isNone) ((xs.take h.toNat).drop l.toNat))))
       | some mv=>intK mv fun mm=>optK hi (-1) fun h=>chk (h=mm) (chk (0≤h∧h≤xs.length) (optK lo 0 fun l=>chk (0≤l∧l≤h) (K (.sl s true ((xs.take h.toNat).drop l.toNat)))))) False
    | none,_=>False)
  | some (.array n e)=>(match x,mx,P.info? e with
    | .ptr k off,none,some i=>cond (Nat.ble n 9223372036854775807) (optK hi n fun h=>chk (0≤h∧h≤n) (optK lo 0 fun l=>chk (0≤l∧l≤h) (K (.ms k (off+l.toNat*i.size) (h.toNat - l.toNat) (n - l.toNat) i.size)))) False
    | _,_,_=>False)
  | _=>False
theorem opt_cases {a:Option AV} {v:Option Value} {S:Pin} {m:Nm} {i d:Int} (hv:∀ y,a=some y→∃ u,v=some u∧CV S y m u) (hn:a=none→v=none) (h1:a=none→i=d)
  (h2:∀ y,a=some y→∀ S m v,CV S y m v→∃ q,v=.int q i):(v=none∧i=d)∨∃ q,v=some (.int q i):=by
 cases a with
 | none=>exact .inl ⟨hn rfl,h1 rfl⟩
 | some y =>
  obtain ⟨u,rfl,hu⟩:=hv y rfl
  obtain ⟨q,rfl⟩:=h2 y rfl S m u hu
  exact .inr ⟨q,rfl⟩
def Opt (S:Pin) (m:Nm) (a:Option AV) (v:Option Value):Prop:=(∀ y,a=some y→∃ u,v=some u∧CV S y m u)∧(a=none→v=none)
theorem asli_sound {P:Program} {t:TypeId} {x:AV} {lo hi mx:Option AV} {K:AV→Prop} (h:asli P t x lo hi mx K) :
  ∃ r,K r∧∀ (S:Pin) (m:Nm) (w:World) (v:Value) (vl vh vm:Option Value),CV S x m v→Opt S m lo vl→Opt S m hi vh→Opt S m mx vm →
   ∃ z,(Instr.sliceAt t v vl vh vm).run P w=.ok z w∧CV S r m z:=by
 unfold asli at h
 split at h
 ·rename_i hd
  split at h
  ·rename_i s
   obtain ⟨i,h,a1,a2⟩:=optK_sound h
   obtain ⟨hb,h⟩:=chk_iff.1 h
   obtain ⟨l,h,b1,b2⟩:=optK_sound h
   obtain ⟨hc,h⟩:=chk_iff.1 h
   refine ⟨_,h,fun S m w v vl vh vm hv ol oh om=>?_⟩
   simp only [CV] at hv
   obtain ⟨rfl,hs⟩:=hv
   have em:vm=none:=om.2 rfl
   subst em
   have hl:=opt_cases ol.1 ol.2 b1 b2
   have hh:=opt_cases oh.1 oh.2 a1 a2
   refine ⟨.string (s.extract l.toNat i.toNat),?_,?_⟩
   ·simp [Instr.sliceAt,Instr.slice,run_underlying hd,run_bounds w hb hc hl hh]
   ·simp only [CV]
    refine ⟨trivial,?_⟩
    simp only [ByteArray.size_extract]
    omega
  ·exact h.elim
 ·rename_i e hd
  split at h
  ·rename_i inf hi' hrow
   obtain ⟨k,s,Q,eo,n,f,h0,hx⟩:=viewR_sound h
   clear h
   obtain ⟨hsz,h⟩:=cond_F h0
   clear h0
   have hsz:=Nat.eq_of_beq_eq_true hsz
   have fin:∀ (S:Pin) (m:Nm) (A:Option Addr) (c:Nat) (l i M:Int) (g:Bool),n≤c→c≤maxLen→(A=none→c=0)→(∀ a,A=some a→a.spot=none)→(∃ A1 q1 c1,m k=some (.iface 0 (.slice A1 q1 c1))∧Q≤q1∧(Q=q1→c≠0→∃ g,A1=some ⟨g,0,none⟩∧A=some ⟨g,eo*s,none⟩))→0≤l∧l≤i→0≤i∧i≤n→i≤M∧M≤c→(g=true→M=i) →
     CV S (.mw k s Q (eo+l.toNat) (i.toNat - l.toNat) g) m (.slice (if M.toNat=l.toNat then A else A.map (·.add (l.toNat*inf.size))) (i.toNat - l.toNat) (M.toNat - l.toNat)):=by
    intro S m A c l i M g hc1 hc2 hA hsp hE hl hi hM hg
    simp only [CV]
    obtain ⟨A1,q1,c1,hE1,hE2,hE3⟩:=hE
    refine ⟨_,_,rfl,by omega,by omega,fun e=>?_,fun a ha=>?_,(fun e=>by rw [hg e]),A1,q1,c1,hE1,hE2,fun hq hc=>?_⟩
    ·by_cases hm:M.toNat=l.toNat
     ·omega
     ·rw [if_neg hm] at e
      cases A with
      | none=>have:=hA rfl; omega
      | some a=>cases e
    ·by_cases hm:M.toNat=l.toNat
     ·rw [if_pos hm] at ha; exact hsp a ha
     ·rw [if_neg hm] at ha
      cases A with
      | none=>cases ha
      | some a0 =>
       simp only [Option.map_some,Option.some.injEq] at ha
       subst ha
       unfold Addr.add
       split
       ·exact hsp a0 rfl
       ·rfl
    ·rw [if_neg (by omega)]
     obtain ⟨g',h1,h2⟩:=hE3 hq (by omega)
     refine ⟨g',h1,?_⟩
     rw [h2]
     simp only [Option.map_some,add_none]
     rw [hsz,Nat.add_mul]
   split at h
   ·obtain ⟨i,h1,a1,a2⟩:=optK_sound h
    clear h
    obtain ⟨hb,h⟩:=chk_iff.1 h1
    clear h1
    obtain ⟨l,h1,b1,b2⟩:=optK_sound h
    clear h
    obtain ⟨hc,h⟩:=chk_iff.1 h1
    refine ⟨_,h,fun S m w v vl vh vm hv ol oh om=>?_⟩
    have hv':=hx S m v hv
    simp only [CV] at hv'
    obtain ⟨A,c,rfl,hc1,hc2,hA,hsp,hf,hE⟩:=hv'
    have em:vm=none:=om.2 rfl
    subst em
    have hl:=opt_cases ol.1 ol.2 b1 b2
    have hh:=opt_cases oh.1 oh.2 a1 a2
    refine ⟨_,?_,fin S m A c l i c (f&&hi.isNone) hc1 hc2 hA hsp hE hc hb ⟨by omega,by omega⟩ (fun e=>?_)⟩
    ·simp [Instr.sliceAt,Instr.slice,run_underlying hd,run_bounds (b:=true) w (⟨hb.1,by omega⟩:0≤i∧i≤c) hc hl hh,sizeOf,typeInfo,hi']
    ·simp only [Bool.and_eq_true,Option.isNone_iff_eq_none] at e
     rw [hf e.1,a1 e.2]
   ·obtain ⟨mm,h1,c2⟩:=intK_sound h
    clear h
    obtain ⟨i,h,a1,a2⟩:=optK_sound h1
    clear h1
    obtain ⟨hq,h1⟩:=chk_iff.1 h
    clear h
    obtain ⟨hb,h⟩:=chk_iff.1 h1
    clear h1
    obtain ⟨l,h1,b1,b2⟩:=optK_sound h
    clear h
    obtain ⟨hc,hK⟩:=chk_iff.1 h1
    subst hq
    refine ⟨_,hK,fun S m w v vl vh vm hv ol oh om=>?_⟩
    have hv':=hx S m v hv
    simp only [CV] at hv'
    obtain ⟨A,c,rfl,hc1,hc2,hA,hsp,hf,hE⟩:=hv'
    obtain ⟨u,rfl,hu⟩:=om.1 _ rfl
    obtain ⟨q2,rfl⟩:=c2 S m u hu
    have hl:=opt_cases ol.1 ol.2 b1 b2
    have hh:=opt_cases oh.1 oh.2 a1 a2
    rcases hh with ⟨rfl,e⟩ | ⟨q1,rfl⟩
    ·omega
    ·refine ⟨_,?_,fin S m A c l i i true hc1 hc2 hA hsp hE hc hb ⟨by omega,by omega⟩ (fun e=>rfl)⟩
     simp [Instr.sliceAt,Instr.slice,run_underlying hd,run_bounds3 (b:=true) w (⟨hb.1,by omega⟩:0≤i∧i≤c) hc hl,sizeOf,typeInfo,hi']
  ·rename_i inf hi' hrow
   obtain ⟨s,f,xs,h,hx⟩:=viewS_sound h
   obtain ⟨hsz,h⟩:=cond_F h
   have hsz:=Nat.eq_of_beq_eq_true hsz
   have fin:∀ (S:Pin) (A:Option Addr) (c:Nat) (l i M:Int) (g:Bool),xs.length≤c→c≤maxLen→(A=none→c=0)→(∀ a,A=some a→(c≠0→a.spot=none)∧CE S xs s a.block a.off)→0≤l∧l≤i→0≤i∧i≤xs.length→i≤M∧M≤c→(g=true→M=i) →
     ∀ m,CV S (.sl s g ((xs.take i.toNat).drop l.toNat)) m (.slice (if M.toNat=l.toNat then A else A.map (·.add (l.toNat*inf.size))) (i.toNat - l.toNat) (M.toNat - l.toNat)):=by
    intro S A c l i M g hc1 hc2 hA hE hl hi hM hg m
    have len:((xs.take i.toNat).drop l.toNat).length=i.toNat - l.toNat:=by simp; omega
    simp only [CV,len]
    refine ⟨_,_,rfl,by omega,by omega,fun e=>by rw [hg e],fun e=>?_,fun a ha=>?_⟩
    ·by_cases hm:M.toNat=l.toNat
     ·omega
     ·rw [if_neg hm] at e
      cases A with
      | none=>have:=hA rfl; omega
      | some a=>cases e
    ·by_cases hm:M.toNat=l.toNat
     ·rw [if_pos hm] at ha
      have hnil:(xs.take i.toNat).drop l.toNat=[]:=List.eq_nil_of_length_eq_zero (by omega)
      rw [hnil]
      exact ⟨fun h0=>absurd (by omega) h0,by simp only [CE]⟩
     ·rw [if_neg hm] at ha
      cases A with
      | none=>cases ha
      | some a0 =>
       simp only [Option.map_some,Option.some.injEq] at ha
       subst ha
       obtain ⟨h1,h2⟩:=hE a0 rfl
       have h1:=h1 (by omega)
       obtain ⟨b,o,sp⟩:=a0
       simp only at h1
       subst h1
       rw [add_none]
       exact ⟨fun _=>rfl,by rw [hsz]; exact (h2.take _).drop _⟩
   split at h
   ·obtain ⟨i,h,a1,a2⟩:=optK_sound h
    obtain ⟨hb,h⟩:=chk_iff.1 h
    obtain ⟨l,h,b1,b2⟩:=optK_sound h
    obtain ⟨hc,h⟩:=chk_iff.1 h
    refine ⟨_,h,fun S m w v vl vh vm hv ol oh om=>?_⟩
    obtain ⟨A,c,rfl,hc1,hc2,hf,hA,hE⟩:=hx S m v hv
    have em:vm=none:=om.2 rfl
    subst em
    have hl:=opt_cases ol.1 ol.2 b1 b2
    have hh:=opt_cases oh.1 oh.2 a1 a2
    refine ⟨_,?_,fin S A c l i c (f&&hi.isNone) hc1 hc2 hA hE hc hb ⟨by omega,by omega⟩ (fun e=>?_) m⟩
    ·simp [Instr.sliceAt,Instr.slice,run_underlying hd,run_bounds (b:=true) w (⟨hb.1,by omega⟩:0≤i∧i≤c) hc hl hh,sizeOf,typeInfo,hi']
    ·simp only [Bool.and_eq_true,Option.isNone_iff_eq_none] at e
     rw [hf e.1,a1 e.2]
   ·rename_i mv
    obtain ⟨mm,h,c2⟩:=intK_sound h
    obtain ⟨i,h,a1,a2⟩:=optK_sound h
    obtain ⟨hq,h⟩:=chk_iff.1 h
    obtain ⟨hb,h⟩:=chk_iff.1 h
    obtain ⟨l,h,b1,b2⟩:=optK_sound h
    obtain ⟨hc,hK⟩:=chk_iff.1 h
    subst hq
    refine ⟨_,hK,fun S m w v vl vh vm hv ol oh om=>?_⟩
    obtain ⟨A,c,rfl,hc1,hc2,hf,hA,hE⟩:=hx S m v hv
    obtain ⟨u,rfl,hu⟩:=om.1 _ rfl
    obtain ⟨q2,rfl⟩:=c2 S m u hu
    have hl:=opt_cases ol.1 ol.2 b1 b2
    have hh:=opt_cases oh.1 oh.2 a1 a2
    rcases hh with ⟨rfl,e⟩ | ⟨q1,rfl⟩
    ·omega
    ·refine ⟨_,?_,fin S A c l i i true hc1 hc2 hA hE hc hb ⟨by omega,by omega⟩ (fun e=>rfl) m⟩
     simp [Instr.sliceAt,Instr.slice,run_underlying hd,run_bounds3 (b:=true) w (⟨hb.1,by omega⟩:0≤i∧i≤c) hc hl,sizeOf,typeInfo,hi']
  ·exact h.elim
 ·rename_i n e hd
  split at h
  ·rename_i k off inf hi'
   obtain ⟨hn,h⟩:=cond_F h
   have hn:=Nat.le_of_ble_eq_true hn
   obtain ⟨i,h,a1,a2⟩:=optK_sound h
   obtain ⟨hb,h⟩:=chk_iff.1 h
   obtain ⟨l,h,b1,b2⟩:=optK_sound h
   obtain ⟨hc,h⟩:=chk_iff.1 h
   refine ⟨_,h,fun S m w v vl vh vm hv ol oh om=>?_⟩
   simp only [CV] at hv
   obtain ⟨g,hm,rfl⟩:=hv
   have em:vm=none:=om.2 rfl
   subst em
   have hl:=opt_cases ol.1 ol.2 b1 b2
   have hh:=opt_cases oh.1 oh.2 a1 a2
   refine ⟨.slice (some (if n=l.toNat then ⟨g,off,none⟩ else ⟨g,off+l.toNat*inf.size,none⟩)) (i.toNat - l.toNat) (n - l.toNat),?_,?_⟩
   ·simp [Instr.sliceAt,run_underlying hd,Instr.sureAddr,run_bounds (b:=false) w hb hc hl hh,sizeOf,typeInfo,hi',add_none]
   ·simp only [CV]
    by_cases e:n=l.toNat
    ·rw [if_pos e]
     exact ⟨g,off,hm,rfl,fun h=>by omega,by omega,by unfold maxLen; omega⟩
    ·rw [if_neg e]
     exact ⟨g,_,hm,rfl,fun _=>rfl,by omega,by unfold maxLen; omega⟩
  ·exact h.elim
 ·exact h.elim
end Go.Proofs.YtgbbmadjdaphnaaGreatDoor
namespace Go.Proofs.YtgbbmadjdaphnaaGreatDoor
open Go
set_option linter.unusedVariables false
set_option linter.unusedSimpArgs false
def aun (E:Env) (op:UnOp) (x:AV) (K:AV→Prop):Prop :=
 match op,x with
 | .not,.bool b=>K (.bool (!b))
 | .neg,.int k n=>ar E k (0 - n) K
 | .xor,.int k n=>K (.int k (bits .xor k (if k.signed then -1 else k.max) n))
 | _,_=>False
theorem aun_sound {P:Program} {E:Env} {op:UnOp} {x:AV} {K:AV→Prop} (h:aun E op x K) :
  ∃ r,K r∧∀ (S:Pin) (m:Nm) (w:World) (v:Value),CV S x m v→∃ z,(Op.unary op v).run P w=.ok z w∧CV S r m z:=by
 unfold aun at h
 split at h
 ·refine ⟨_,h,fun S m w v hv=>?_⟩
  simp only [CV] at hv
  subst hv
  exact ⟨_,by simp [Op.unary]; rfl,by simp only [CV]⟩
 ·obtain ⟨z,h1,h2,h3⟩:=ar_sound h
  refine ⟨_,h1,fun S m w v hv=>?_⟩
  simp only [CV] at hv
  obtain ⟨rfl,_⟩:=hv
  exact ⟨_,by simp [Op.unary,Op.intArith]; rfl,by simp only [CV]; exact ⟨by rw [h2]; simp,h3⟩⟩
 ·rename_i k n
  refine ⟨_,h,fun S m w v hv=>?_⟩
  simp only [CV] at hv
  obtain ⟨rfl,_⟩:=hv
  exact ⟨.int k (bits .xor k (if k.signed then -1 else k.max) n),by simp [Op.unary,Op.intBits,bits],by simp only [CV]; exact ⟨trivial,bits_rng _ _ _ _⟩⟩
 ·exact h.elim
def wider:IntKind→IntKind→Bool
 | .i8,.i8=>true | .i8,.i16=>true | .i8,.i32=>true | .i8,.i64=>true
 | .i16,.i16=>true | .i16,.i32=>true | .i16,.i64=>true
 | .i32,.i32=>true | .i32,.i64=>true
 | .i64,.i64=>true
 | .u8,.i8=>false | .u8,_=>true
 | .u16,.u16=>true | .u16,.u32=>true | .u16,.u64=>true | .u16,.i32=>true | .u16,.i64=>true
 | .u32,.u32=>true | .u32,.u64=>true | .u32,.i64=>true
 | .u64,.u64=>true
 | _,_=>false
theorem wider_rng {k k':IntKind} {n:Int} (h:wider k k'=true) (hr:rng k n):rng k' n:=by
 cases k <;> cases k' <;> simp only [wider,Bool.false_eq_true] at h <;> simp only [rng] at hr ⊢ <;> omega
def acv (P:Program) (s d:TypeId) (x:AV) (K:AV→Prop):Prop :=
 match P.underlying s,P.underlying d,x with
 | some _,some (.int k),.int k0 n=>cond (wider k0 k) (K (.int k n)) (K (.int k (k.wrap n)))
 | some _,some .string,.str b=>K (.str b)
 | some _,some .string,.int _ n=>K (.str (Utf8.encode n))
 | _,_,_=>False
theorem encode_le4 (i:Int):(Utf8.encode i).size≤4:=by
 unfold Utf8.encode
 dsimp only
 repeat' split
 all_goals simp [ByteArray.size]
theorem acv_sound {P:Program} {s d:TypeId} {x:AV} {K:AV→Prop} (h:acv P s d x K) :
  ∃ r,K r∧∀ (S:Pin) (m:Nm) (w:World) (v:Value),CV S x m v→∃ z,(convert s d v).run P w=.ok z w∧CV S r m z:=by
 unfold acv at h
 split at h
 ·rename_i ds k k0 n h1 h2
  cases hw:wider k0 k with
  | true =>
   rw [hw] at h
   refine ⟨_,h,fun S m w v hv=>?_⟩
   simp only [CV] at hv
   obtain ⟨rfl,hr⟩:=hv
   have:=wider_rng hw hr
   exact ⟨.int k n,by simp [convert,run_underlying h1,run_underlying h2,Conv.intToInt,wrap_eq this],by simp only [CV]; exact ⟨trivial,this⟩⟩
  | false =>
   rw [hw] at h
   refine ⟨_,h,fun S m w v hv=>?_⟩
   simp only [CV] at hv
   obtain ⟨rfl,hr⟩:=hv
   exact ⟨.int k (k.wrap n),by simp [convert,run_underlying h1,run_underlying h2,Conv.intToInt],by simp only [CV]; exact ⟨trivial,wrap_rng _ _⟩⟩
 ·rename_i ds b h1 h2
  refine ⟨_,h,fun S m w v hv=>?_⟩
  have hv':=hv
  simp only [CV] at hv
  obtain ⟨rfl,hr⟩:=hv
  exact ⟨.string b,by simp [convert,run_underlying h1,run_underlying h2],hv'⟩
 ·rename_i ds k0 n h1 h2
  refine ⟨_,h,fun S m w v hv=>?_⟩
  simp only [CV] at hv
  obtain ⟨rfl,hr⟩:=hv
  exact ⟨.string (Utf8.encode n),by simp [convert,run_underlying h1,run_underlying h2,Conv.intToString],by simp only [CV]; exact ⟨trivial,by have:=encode_le4 n; unfold maxLen; omega⟩⟩
 ·exact h.elim
def afl (P:Program) (t:TypeId) (x:AV) (f:Nat) (K:AV→Prop):Prop :=
 match P.underlying t,x with
 | some (.struct fs),.agg cs=>(match fs[f]? with | some fd=>partK P fd.type (cs.drop fd.offset) K | none=>False)
 | _,_=>False
theorem afl_sound {P:Program} {t:TypeId} {x:AV} {f:Nat} {K:AV→Prop} (h:afl P t x f K) :
  ∃ r,K r∧∀ (S:Pin) (m:Nm) (w:World) (v:Value),CV S x m v→∃ z,(Instr.field t v f).run P w=.ok z w∧CV S r m z:=by
 unfold afl at h
 split at h
 ·rename_i fs cs hd
  split at h
  ·rename_i fd hf
   obtain ⟨r,h1,h2⟩:=partK_sound h
   refine ⟨r,h1,fun S m w v hv=>?_⟩
   simp only [CV] at hv
   obtain ⟨us,rfl,hu⟩:=hv
   obtain ⟨z,h3,h4⟩:=h2 us w S m hu
   exact ⟨z,by simp [Instr.field,run_underlying hd,hf,asAgg,h3],h4⟩
  ·exact h.elim
 ·exact h.elim
def afa (P:Program) (t:TypeId) (x:AV) (f:Nat) (K:AV→Prop):Prop :=
 match P.underlying t with
 | some (.struct fs)=>(match fs[f]? with
  | some fd=>(match P.info? fd.type with
   | some i=>cond (Nat.beq i.size 0) False (match x with
    | .ptr k off=>K (.ptr k (off+fd.offset))
    | .ro cs=>K (.ro (cs.drop fd.offset))
    | .prw k s q j fo=>K (.prw k s q j (fo+fd.offset))
    | _=>False)
   | none=>False)
  | none=>False)
 | _=>False
theorem afa_sound {P:Program} {t:TypeId} {x:AV} {f:Nat} {K:AV→Prop} (h:afa P t x f K) :
  ∃ r,K r∧∀ (S:Pin) (m:Nm) (w:World) (v:Value),CV S x m v→∃ z,(Instr.fieldAt t v f).run P w=.ok z w∧CV S r m z:=by
 unfold afa at h
 split at h
 ·rename_i fs hd
  split at h
  ·rename_i fd hf
   split at h
   ·rename_i i hi
    cases hz:Nat.beq i.size 0 with
    | true=>rw [hz] at h; exact h.elim
    | false =>
     rw [hz] at h
     have hz':¬ i.size=0:=fun e=>by rw [e] at hz; cases hz
     simp only [cond_false] at h
     split at h
     ·rename_i k off
      refine ⟨_,h,fun S m w v hv=>?_⟩
      simp only [CV] at hv
      obtain ⟨g,hm,rfl⟩:=hv
      exact ⟨.pointer (some ⟨g,off+fd.offset,none⟩),by simp [Instr.fieldAt,run_underlying hd,hf,Instr.sureAddr,fieldPlace,sizeOf,typeInfo,hi,hz',add_none],by simp only [CV]; exact ⟨g,hm,rfl⟩⟩
     ·rename_i cs
      refine ⟨_,h,fun S m w v hv=>?_⟩
      simp only [CV] at hv
      obtain ⟨b,o,rfl,hc⟩:=hv
      exact ⟨.pointer (some ⟨b,o+fd.offset,none⟩),by simp [Instr.fieldAt,run_underlying hd,hf,Instr.sureAddr,fieldPlace,sizeOf,typeInfo,hi,hz',add_none],by simp only [CV]; exact ⟨b,_,rfl,hc.drop _⟩⟩
     ·rename_i k s q j fo
      refine ⟨_,h,fun S m w v hv=>?_⟩
      simp only [CV] at hv
      obtain ⟨⟨g,o,sp⟩,rfl,hsp,A1,q1,c1,h1,h2,h3⟩:=hv
      simp only at hsp
      subst hsp
      refine ⟨.pointer (some ⟨g,o+fd.offset,none⟩),by simp [Instr.fieldAt,run_underlying hd,hf,Instr.sureAddr,fieldPlace,sizeOf,typeInfo,hi,hz',add_none],?_⟩
      simp only [CV]
      refine ⟨_,rfl,rfl,A1,q1,c1,h1,h2,fun hq=>?_⟩
      obtain ⟨g',e1,e2⟩:=h3 hq
      injection e2 with e2 e3
      subst e2; subst e3
      exact ⟨_,e1,by simp [Nat.add_assoc]⟩
     ·exact h.elim
   ·exact h.elim
  ·exact h.elim
 ·exact h.elim
def byteI (s:ByteArray) (i:Nat):Int:=match s[i]? with | some b=>b.toNat | none=>0
theorem byteI_rng (s:ByteArray) (i:Nat):rng .u8 (byteI s i):=by
 unfold byteI
 split
 ·rename_i b _
  have:=b.toNat_lt
  simp only [rng]; omega
 ·simp [rng]
def aix (P:Program) (t:TypeId) (x i:AV) (K:AV→Prop):Prop :=
 match P.underlying t with
 | some (.array n e)=>(match x,P.info? e with
  | .agg cs,some inf=>intK i fun j=>chk (0≤j∧j < n) (partK P e (cs.drop (j.toNat*inf.size)) K)
  | _,_=>False)
 | some .string=>(match x with
  | .str s=>intK i fun j=>chk (0≤j∧j < s.size) (K (.int .u8 (byteI s j.toNat)))
  | _=>False)
 | _=>False
theorem aix_sound {P:Program} {t:TypeId} {x i:AV} {K:AV→Prop} (h:aix P t x i K) :
  ∃ r,K r∧∀ (S:Pin) (m:Nm) (w:World) (v u:Value),CV S x m v→CV S i m u→∃ z,(Instr.index t v u).run P w=.ok z w∧CV S r m z:=by
 unfold aix at h
 split at h
 ·rename_i n e hd
  split at h
  ·rename_i cs inf hi
   obtain ⟨j,h,hj⟩:=intK_sound h
   obtain ⟨hb,h⟩:=chk_iff.1 h
   obtain ⟨r,h1,h2⟩:=partK_sound h
   refine ⟨r,h1,fun S m w v u hv hu=>?_⟩
   simp only [CV] at hv
   obtain ⟨us,rfl,hus⟩:=hv
   obtain ⟨q,rfl⟩:=hj S m u hu
   obtain ⟨z,h3,h4⟩:=h2 us w S m hus
   exact ⟨z,by simp [Instr.index,asIntOf,run_underlying hd,hb,sizeOf,typeInfo,hi,h3],h4⟩
  ·exact h.elim
 ·rename_i hd
  split at h
  ·rename_i s
   obtain ⟨j,h,hj⟩:=intK_sound h
   obtain ⟨hb,h⟩:=chk_iff.1 h
   refine ⟨_,h,fun S m w v u hv hu=>?_⟩
   simp only [CV] at hv
   obtain ⟨rfl,_⟩:=hv
   obtain ⟨q,rfl⟩:=hj S m u hu
   have hlt:j.toNat < s.size:=by omega
   refine ⟨.int .u8 (byteI s j.toNat),?_,by simp only [CV]; exact ⟨trivial,byteI_rng _ _⟩⟩
   simp only [Instr.index,asIntOf,Sem.run_bind,Sem.run_pure,Result.andThen_ok,run_underlying hd,hb.1,if_true,byteI]
   rw [getElem?_pos s j.toNat hlt]
   rfl
  ·exact h.elim
 ·exact h.elim
def aia (P:Program) (t:TypeId) (x i:AV) (K:AV→Prop):Prop :=
 match P.underlying t with
 | some (.array n e)=>(match P.info? e with
  | some inf=>intK i fun j=>chk (0≤j∧j < n) (match x with
   | .ptr k off=>K (.ptr k (off+j.toNat*inf.size))
   | .ro cs=>K (.ro (cs.drop (j.toNat*inf.size)))
   | _=>False)
  | _=>False)
 | some (.slice e)=>(match P.info? e with
  | some inf=>intK i fun j=>(match x with
   | .ms k off n _ s=>cond (Nat.beq inf.size s) (chk (0≤j∧j < n) (K (.ptr k (off+j.toNat*s)))) False
   | .rw k s n=>cond (Nat.beq inf.size s) (chk (0≤j∧j < n) (K (.prw k s n j.toNat 0))) False
   | .mw k s q eo n _=>cond (Nat.beq inf.size s) (chk (0≤j∧j < n) (K (.prw k s q (eo+j.toNat) 0))) False
   | x=>viewS x fun s _ xs=>cond (Nat.beq inf.size s) (chk (0≤j∧j < xs.length) (K (.ro (xs.getD j.toNat [])))) False)
  | none=>False)
 | _=>False
theorem aia_sound {P:Program} {t:TypeId} {x i:AV} {K:AV→Prop} (h:aia P t x i K) :
  ∃ r,K r∧∀ (S:Pin) (m:Nm) (w:World) (v u:Value),CV S x m v→CV S i m u→∃ z,(Instr.indexAt t v u).run P w=.ok z w∧CV S r m z:=by
 unfold aia at h
 split at h
 ·rename_i n e hd
  split at h
  ·rename_i inf hi
   obtain ⟨j,h1,hj⟩:=intK_sound h
   clear h
   obtain ⟨hb,h⟩:=chk_iff.1 h1
   clear h1
   split at h
   ·rename_i k off
    refine ⟨_,h,fun S m w v u hv hu=>?_⟩
    simp only [CV] at hv
    obtain ⟨g,hm,rfl⟩:=hv
    obtain ⟨q,rfl⟩:=hj S m u hu
    exact ⟨.pointer (some ⟨g,off+j.toNat*inf.size,none⟩),by simp [Instr.indexAt,asIntOf,run_underlying hd,Instr.sureAddr,sizeOf,typeInfo,hi,hb,add_none],by simp only [CV]; exact ⟨g,hm,rfl⟩⟩
   ·rename_i cs
    refine ⟨_,h,fun S m w v u hv hu=>?_⟩
    simp only [CV] at hv
    obtain ⟨b,o,rfl,hc⟩:=hv
    obtain ⟨q,rfl⟩:=hj S m u hu
    exact ⟨.pointer (some ⟨b,o+j.toNat*inf.size,none⟩),by simp [Instr.indexAt,asIntOf,run_underlying hd,Instr.sureAddr,sizeOf,typeInfo,hi,hb,add_none],by simp only [CV]; exact ⟨b,_,rfl,hc.drop _⟩⟩
   ·exact h.elim
  ·exact h.elim
 ·rename_i e hd
  split at h
  ·rename_i inf hi
   obtain ⟨j,h1,hj⟩:=intK_sound h
   clear h
   have h:=h1
   clear h1
   split at h
   ·rename_i k off n c s
    obtain ⟨hs,h⟩:=cond_F h
    have hs:=Nat.eq_of_beq_eq_true hs
    obtain ⟨hb,h⟩:=chk_iff.1 h
    refine ⟨_,h,fun S m w v u hv hu=>?_⟩
    simp only [CV] at hv
    obtain ⟨g,o,hm,rfl,ho,hn,_⟩:=hv
    obtain ⟨q,rfl⟩:=hj S m u hu
    have ho:=ho (by omega)
    subst ho
    exact ⟨.pointer (some ⟨g,o+j.toNat*inf.size,none⟩),by simp [Instr.indexAt,asIntOf,run_underlying hd,sizeOf,typeInfo,hi,hb,add_none],by simp only [CV]; exact ⟨g,hm,by rw [hs]⟩⟩
   ·rename_i k s n
    obtain ⟨hs,h0⟩:=cond_F h
    have hs:=Nat.eq_of_beq_eq_true hs
    obtain ⟨hb,h1⟩:=chk_iff.1 h0
    refine ⟨_,h1,fun S m w v u hv hu=>?_⟩
    simp only [CV] at hv
    obtain ⟨⟨A,c,rfl,hn,hc,hA,hsp⟩,A1,q1,c1,p1,p2,p3⟩:=hv
    obtain ⟨q,rfl⟩:=hj S m u hu
    cases A with
    | none=>have:=hA rfl; omega
    | some a =>
     obtain ⟨g,e⟩:=hsp a rfl
     subst e
     refine ⟨.pointer (some ⟨g,0+j.toNat*inf.size,none⟩),by simp [Instr.indexAt,asIntOf,run_underlying hd,sizeOf,typeInfo,hi,hb,add_none],?_⟩
     simp only [CV]
     refine ⟨_,rfl,rfl,A1,q1,c1,p1,p2,fun hq=>?_⟩
     have:=p3 hq
     injection this with e1 _ _
     exact ⟨g,e1.symm,by rw [hs]; simp⟩
   ·rename_i k s Q eo n f
    obtain ⟨hs,h0⟩:=cond_F h
    have hs:=Nat.eq_of_beq_eq_true hs
    obtain ⟨hb,h1⟩:=chk_iff.1 h0
    refine ⟨_,h1,fun S m w v u hv hu=>?_⟩
    simp only [CV] at hv
    obtain ⟨A,c,rfl,hn,hc,hA,hsp,hf,A1,q1,c1,p1,p2,p3⟩:=hv
    obtain ⟨q,rfl⟩:=hj S m u hu
    cases A with
    | none=>have:=hA rfl; omega
    | some a =>
     obtain ⟨g,o,sp⟩:=a
     have hsp:=hsp _ rfl
     simp only at hsp
     subst hsp
     refine ⟨.pointer (some ⟨g,o+j.toNat*inf.size,none⟩),by simp [Instr.indexAt,asIntOf,run_underlying hd,sizeOf,typeInfo,hi,hb,add_none],?_⟩
     simp only [CV]
     refine ⟨_,rfl,rfl,A1,q1,c1,p1,p2,fun hq=>?_⟩
     obtain ⟨g',e1,e2⟩:=p3 hq (by omega)
     injection e2 with e2
     injection e2 with e2 e3
     subst e2; subst e3
     exact ⟨_,e1,by rw [hs,Nat.add_mul]; simp⟩
   ·obtain ⟨s,f,xs,h,hx⟩:=viewS_sound h
    obtain ⟨hs,h⟩:=cond_F h
    have hs:=Nat.eq_of_beq_eq_true hs
    obtain ⟨hb,h⟩:=chk_iff.1 h
    refine ⟨_,h,fun S m w v u hv hu=>?_⟩
    obtain ⟨A,c,rfl,hc1,_,_,hA,hE⟩:=hx S m v hv
    obtain ⟨q,rfl⟩:=hj S m u hu
    cases A with
    | none=>have:=hA rfl; omega
    | some a =>
     obtain ⟨h1,h2⟩:=hE a rfl
     have h1:=h1 (by omega)
     obtain ⟨b,o,sp⟩:=a
     simp only at h1
     subst h1
     have hlt:j.toNat < xs.length:=by omega
     have hg:=h2.get (List.getElem?_eq_getElem hlt)
     refine ⟨.pointer (some ⟨b,o+j.toNat*inf.size,none⟩),by simp [Instr.indexAt,asIntOf,run_underlying hd,sizeOf,typeInfo,hi,hb,add_none],?_⟩
     simp only [CV]
     exact ⟨b,_,rfl,by rw [hs]; simpa [List.getD,List.getElem?_eq_getElem hlt] using hg.2⟩
  ·exact h.elim
 ·exact h.elim
def foldI (op:Int→Int→Int) (k:IntKind):List AV→Int→(Int→Prop)→Prop
 | [],n,K=>K n
 | .int k' m::l,n,K=>cond (decide (k=k')) (foldI op k l (op n m) K) False
 | _,_,_=>False
theorem foldI_sound {op:Int→Int→Int} {k:IntKind} {F:Value→Value→Sem Value} (hF:∀ a b P w,(F (.int k a) (.int k b)).run P w=.ok (.int k (op a b)) w) (hr:∀ a b,rng k a→rng k b→rng k (op a b)) :
  ∀ (l:List AV) (n:Int) (K:Int→Prop),foldI op k l n K→∃ z,K z∧∀ (S:Pin) (m:Nm) (vs:List Value) (P:Program) (w:World),rng k n→CVl S l m vs→(vs.foldlM F (.int k n)).run P w=.ok (.int k z) w∧rng k z
 | [],n,K,h=>⟨n,h,fun S m vs P w hn hv=>by
   simp only [CVl] at hv
   subst hv
   exact ⟨rfl,hn⟩⟩
 | .int k' m0::l,n,K,h=>by
  simp only [foldI] at h
  obtain ⟨hk,h'⟩:=cond_F h
  have hk:=of_decide_eq_true hk
  subst hk
  obtain ⟨z,hz,hs⟩:=foldI_sound hF hr l (op n m0) K h'
  refine ⟨z,hz,fun S m vs P w hn hv=>?_⟩
  simp only [CVl] at hv
  obtain ⟨u,us,rfl,hu,hus⟩:=hv
  simp only [CV] at hu
  obtain ⟨rfl,hm⟩:=hu
  obtain ⟨h1,h2⟩:=hs S m us P w (hr _ _ hn hm) hus
  refine ⟨?_,h2⟩
  simp only [List.foldlM_cons,Sem.run_bind,hF,Result.andThen_ok]
  exact h1
def abu (P:Program) (b:Builtin) (ts:List TypeId) (xs:List AV) (K:AV→Prop):Prop :=
 match b,ts,xs with
 | .len,t::_,[x]=>(match P.underlying t with
  | some .string=>(match x with | .str s=>K (.int .i64 s.size) | _=>False)
  | some (.array n _)=>cond (Nat.ble n 9223372036854775807) (K (.int .i64 n)) False
  | some (.slice _)=>(match x with
   | .nils=>K (.int .i64 0)
   | .ms _ _ n _ _=>K (.int .i64 n)
   | .rw _ _ n=>K (.int .i64 n)
   | .mw _ _ _ _ n _=>K (.int .i64 n)
   | x=>viewS x fun _ _ l=>K (.int .i64 l.length))
  | _=>False)
 | .min,_,[x,y]=>(match x,y with | .int k a,.int k' c=>cond (decide (k=k')) (K (.int k (min a c))) False | _,_=>False)
 | .max,_,[x,y]=>(match x,y with | .int k a,.int k' c=>cond (decide (k=k')) (K (.int k (max a c))) False | _,_=>False)
 | .max,_,.int k a::l=>foldI max k l a fun n=>K (.int k n)
 | .min,_,.int k a::l=>foldI min k l a fun n=>K (.int k n)
 | _,_,_=>False
theorem abu_sound {P:Program} {b:Builtin} {ts:List TypeId} {xs:List AV} {K:AV→Prop} (h:abu P b ts xs K) :
  ∃ r,K r∧∀ (S:Pin) (m:Nm) (w:World) (ty:TypeId) (cs:Array Bool) (vs:Array Value),CVl S xs m vs.toList→∃ z,(builtin b ts.toArray ty cs vs).run P w=.ok (.value z) w∧CV S r m z:=by
 have one:∀ (S:Pin) (m:Nm) (x:AV) (vs:Array Value),CVl S [x] m vs.toList→∃ v,vs=#[v]∧CV S x m v:=by
  intro S m x vs hv
  simp only [CVl] at hv
  obtain ⟨u,us,e,hu,rfl⟩:=hv
  exact ⟨u,by rw [← Array.toArray_toList (xs:=vs),e],hu⟩
 have two:∀ (S:Pin) (m:Nm) (x y:AV) (vs:Array Value),CVl S [x,y] m vs.toList→∃ v u,vs=#[v,u]∧CV S x m v∧CV S y m u:=by
  intro S m x y vs hv
  simp only [CVl] at hv
  obtain ⟨u,us,e,hu,u',us',rfl,hu',rfl⟩:=hv
  exact ⟨u,u',by rw [← Array.toArray_toList (xs:=vs),e],hu,hu'⟩
 unfold abu at h
 split at h
 ·rename_i t ts x
  split at h
  ·rename_i hd
   split at h
   ·rename_i s
    refine ⟨_,h,fun S m w ty cs vs hw=>?_⟩
    obtain ⟨v,rfl,hv⟩:=one _ _ _ _ hw
    simp only [CV] at hv
    obtain ⟨rfl,hs⟩:=hv
    refine ⟨.int .i64 s.size,by simp [builtin,Builtin.len_,run_underlying hd,goInt],?_⟩
    simp only [CV,rng]
    unfold maxLen at hs
    exact ⟨trivial,by omega,by omega⟩
   ·exact h.elim
  ·rename_i n e hd
   obtain ⟨hn,h'⟩:=cond_F h
   have hn:=Nat.le_of_ble_eq_true hn
   refine ⟨_,h',fun S m w ty cs vs hw=>?_⟩
   obtain ⟨v,rfl,hv⟩:=one _ _ _ _ hw
   refine ⟨.int .i64 n,by simp [builtin,Builtin.len_,run_underlying hd,goInt],?_⟩
   simp only [CV,rng]
   exact ⟨trivial,by omega,by omega⟩
  ·rename_i e hd
   split at h
   ·refine ⟨_,h,fun S m w ty cs vs hw=>?_⟩
    obtain ⟨v,rfl,hv⟩:=one _ _ _ _ hw
    simp only [CV] at hv
    subst hv
    exact ⟨.int .i64 0,by simp [builtin,Builtin.len_,run_underlying hd,goInt],by simp only [CV,rng]; exact ⟨trivial,by omega,by omega⟩⟩
   ·rename_i k off n c s
    refine ⟨_,h,fun S m w ty cs vs hw=>?_⟩
    obtain ⟨v,rfl,hv⟩:=one _ _ _ _ hw
    simp only [CV] at hv
    obtain ⟨g,o,_,rfl,_,h1,h2⟩:=hv
    refine ⟨.int .i64 n,by simp [builtin,Builtin.len_,run_underlying hd,goInt],?_⟩
    simp only [CV,rng]
    unfold maxLen at h2
    exact ⟨trivial,by omega,by omega⟩
   ·rename_i k s n
    refine ⟨_,h,fun S m w ty cs vs hw=>?_⟩
    obtain ⟨v,rfl,hv⟩:=one _ _ _ _ hw
    simp only [CV] at hv
    obtain ⟨⟨A,c,rfl,h1,h2,_⟩,_⟩:=hv
    refine ⟨.int .i64 n,by simp [builtin,Builtin.len_,run_underlying hd,goInt],?_⟩
    simp only [CV,rng]
    unfold maxLen at h2
    exact ⟨trivial,by omega,by omega⟩
   ·rename_i k s q eo n f
    refine ⟨_,h,fun S m w ty cs vs hw=>?_⟩
    obtain ⟨v,rfl,hv⟩:=one _ _ _ _ hw
    simp only [CV] at hv
    obtain ⟨A,c,rfl,h1,h2,_⟩:=hv
    refine ⟨.int .i64 n,by simp [builtin,Builtin.len_,run_underlying hd,goInt],?_⟩
    simp only [CV,rng]
    unfold maxLen at h2
    exact ⟨trivial,by omega,by omega⟩
   ·obtain ⟨s,f,l,h',hx⟩:=viewS_sound h
    refine ⟨_,h',fun S m w ty cs vs hw=>?_⟩
    obtain ⟨v,rfl,hv⟩:=one _ _ _ _ hw
    obtain ⟨A,c,rfl,h1,h2,_⟩:=hx S m v hv
    refine ⟨.int .i64 l.length,by simp [builtin,Builtin.len_,run_underlying hd,goInt],?_⟩
    simp only [CV,rng]
    unfold maxLen at h2
    exact ⟨trivial,by omega,by omega⟩
  ·exact h.elim
 ·split at h
  ·rename_i k a k' c
   obtain ⟨hk,h'⟩:=cond_F h
   have hk:=of_decide_eq_true hk
   subst hk
   refine ⟨_,h',fun S m w ty cs vs hw=>?_⟩
   obtain ⟨v,u,rfl,hv,hu⟩:=two _ _ _ _ _ hw
   simp only [CV] at hv hu
   obtain ⟨rfl,r1⟩:=hv
   obtain ⟨rfl,r2⟩:=hu
   refine ⟨.int k (min a c),?_,?_⟩
   ·have e:(if c < a then c else a)=min a c:=by rw [Int.min_def]; split <;> split <;> omega
    simp [builtin,Builtin.min_,Builtin.min2,e]
   ·simp only [CV]
    refine ⟨trivial,?_⟩
    rw [Int.min_def]; split <;> assumption
  ·exact h.elim
 ·split at h
  ·rename_i k a k' c
   obtain ⟨hk,h'⟩:=cond_F h
   have hk:=of_decide_eq_true hk
   subst hk
   refine ⟨_,h',fun S m w ty cs vs hw=>?_⟩
   obtain ⟨v,u,rfl,hv,hu⟩:=two _ _ _ _ _ hw
   simp only [CV] at hv hu
   obtain ⟨rfl,r1⟩:=hv
   obtain ⟨rfl,r2⟩:=hu
   refine ⟨.int k (max a c),?_,?_⟩
   ·have e:(if a < c then c else a)=max a c:=by rw [Int.max_def]; split <;> split <;> omega
    simp [builtin,Builtin.max_,Builtin.max2,e]
   ·simp only [CV]
    refine ⟨trivial,?_⟩
    rw [Int.max_def]; split <;> assumption
  ·exact h.elim
 ·rename_i k a l _
  obtain ⟨z,hz,hs⟩:=foldI_sound (F:=Builtin.max2) (fun a b P w=>by have e:(if a < b then b else a)=max a b:=by { rw [Int.max_def]; split <;> split <;> omega }; simp [Builtin.max2,e]) (fun a b ha hb=>by rw [Int.max_def]; split <;> assumption) _ _ _ h
  refine ⟨_,hz,fun S m w ty cs vs hw=>?_⟩
  simp only [CVl] at hw
  obtain ⟨u,us,e,hu,hus⟩:=hw
  simp only [CV] at hu
  obtain ⟨rfl,hr⟩:=hu
  obtain ⟨h1,h2⟩:=hs S m us P w hr hus
  refine ⟨.int k z,?_,by simp only [CV]; exact ⟨trivial,h2⟩⟩
  simp [builtin,Builtin.max_,e,h1]
 ·rename_i k a l _
  obtain ⟨z,hz,hs⟩:=foldI_sound (F:=Builtin.min2) (fun a b P w=>by have e:(if b < a then b else a)=min a b:=by { rw [Int.min_def]; split <;> split <;> omega }; simp [Builtin.min2,e]) (fun a b ha hb=>by rw [Int.min_def]; split <;> assumption) _ _ _ h
  refine ⟨_,hz,fun S m w ty cs vs hw=>?_⟩
  simp only [CVl] at hw
  obtain ⟨u,us,e,hu,hus⟩:=hw
  simp only [CV] at hu
  obtain ⟨rfl,hr⟩:=hu
  obtain ⟨h1,h2⟩:=hs S m us P w hr hus
  refine ⟨.int k z,?_,by simp only [CV]; exact ⟨trivial,h2⟩⟩
  simp [builtin,Builtin.min_,e,h1]
 ·exact h.elim
def isNl:AV→Bool
 | .nils=>true
 | _=>false
def nlsF:List (Nat × Nat × Nat)→Nat→Nat→AV→AV
 | (t',j',s)::l,t,j,x=>cond (Nat.beq t t'&&Nat.beq j j'&&isNl x) (.sl s false []) (nlsF l t j x)
 | [],_,_,x=>x
def nlsC (l:List (Nat × Nat × Nat)) (t:Nat):List AV→Nat→List AV
 | x::xs,j=>nlsF l t j x::nlsC l t xs (j+1)
 | [],_=>[]
def nlsA:List (Nat × Nat × Nat)→Nat→AV→AV
 | p::l,t,.agg cs=>.agg (nlsC (p::l) t cs 0)
 | _,_,x=>x
theorem nlsF_cv {S:Pin} {m:Nm} {v:Value}:∀ (l:List (Nat × Nat × Nat)) (t j:Nat) (x:AV),CV S x m v→CV S (nlsF l t j x) m v
 | [],_,_,_,h=>h
 | (t',j',s)::l,t,j,x,h=>by
  simp only [nlsF]
  cases hb:(Nat.beq t t'&&Nat.beq j j'&&isNl x) with
  | false=>exact nlsF_cv l t j x h
  | true =>
   simp only [Bool.and_eq_true] at hb
   have hx:x=.nils:=by cases x <;> first | rfl | cases hb.2
   subst hx
   simp only [CV] at h
   subst h
   simp only [cond_true,CV]
   exact ⟨none,0,rfl,Nat.le_refl _,by simp [maxLen],by simp,fun _=>rfl,fun a e=>by cases e⟩
theorem nlsC_cv {S:Pin} {m:Nm} (l:List (Nat × Nat × Nat)) (t:Nat):∀ (xs:List AV) (j:Nat) (vs:List Value),CVl S xs m vs→CVl S (nlsC l t xs j) m vs
 | [],_,_,h=>h
 | x::xs,j,vs,h=>by
  simp only [CVl] at h
  obtain ⟨u,us,rfl,h1,h2⟩:=h
  simp only [nlsC,CVl]
  exact ⟨u,us,rfl,nlsF_cv l t j x h1,nlsC_cv l t xs (j+1) us h2⟩
theorem nlsA_cv {S:Pin} {m:Nm} {v:Value} {l:List (Nat × Nat × Nat)} {t:Nat} {x:AV} (h:CV S x m v):CV S (nlsA l t x) m v:=by
 unfold nlsA
 split
 ·simp only [CV] at h ⊢
  obtain ⟨us,e,h⟩:=h
  exact ⟨us,e,nlsC_cv _ _ _ _ _ h⟩
 ·exact h
def apure (P:Program) (E:Env) (tys:List TypeId) (o:Op) (ev:Operand→AV) (K:AV→Prop):Prop :=
 match o with
 | .move x=>K (ev x)
 | .assign x=>K (ev x)
 | .pick c a b=>(match ev c with | .bool q=>cond q (K (ev a)) (K (ev b)) | _=>False)
 | .binOp op t x y _=>abin P E tys op t (ev x) (ev y) K
 | .unOp op _ x=>aun E op (ev x) K
 | .convert s d x=>acv P s d (ev x) K
 | .extract x i=>(match ev x with | .tup vs=>headK (vs.drop i) K | _=>False)
 | .makeFunc (.func f) first caps=>cond first.isEmpty (K (.fn f (caps.toList.map ev))) False
 | .nilCheck x=>(match ev x with | .ptr k i=>K (.ptr k i) | .ro cs=>K (.ro cs) | .fn f cs=>K (.fn f cs) | .prw k s q j fo=>K (.prw k s q j fo) | _=>False)
 | .field t x f=>afl P t (ev x) f K
 | .fieldAddr t x f=>afa P t (ev x) f K
 | .index t x i=>aix P t (ev x) (ev i) K
 | .indexAddr t x i=>aia P t (ev x) (ev i) K
 | .slice t x lo hi mx=>asli P t (ev x) (lo.map ev) (hi.map ev) (mx.map ev) K
 | .build t parts=>bldK P t (parts.toList.map fun p=>(p.1,ev p.2)) fun r=>K (nlsA E.nls t r)
 | .call c=>(match c.callee with | .builtin b=>abu P b c.argTypes.toList (c.args.toList.map ev) K | _=>False)
 | _=>False
theorem CVl.map {S:Pin} {m:Nm} {ev:Operand→AV} {va:Operand→Value}:∀ (l:List Operand),(∀ x ∈ l,CV S (ev x) m (va x))→CVl S (l.map ev) m (l.map va)
 | [],_=>by simp only [List.map_nil,CVl]
 | x::l,h=>by
  simp only [List.map_cons,CVl]
  exact ⟨_,_,rfl,h x (by simp),CVl.map l (fun y hy=>h y (by simp [hy]))⟩
theorem opt_map {S:Pin} {m:Nm} {ev:Operand→AV} {va:Operand→Value} (o:Option Operand) (h:∀ x ∈ o.toArray,CV S (ev x) m (va x)):Opt S m (o.map ev) (o.map va):=by
 cases o with
 | none=>exact ⟨fun y e=>(by cases e),fun _=>rfl⟩
 | some x=>exact ⟨fun y e=>by simp only [Option.map_some,Option.some.injEq] at e; subst e; exact ⟨_,rfl,h x (by simp)⟩,fun e=>by cases e⟩
theorem apure_sound {P:Program} {E:Env} {tys:List TypeId} (hT:TyOK P tys) {o:Oper} {ev:Operand→AV} {K:AV→Prop} (h:apure P E tys o.op ev K):∃ r,K r∧PG P o ev r:=by
  unfold apure at h
  split at h
  · rename_i x ho
    refine ⟨_,h,fun a w S m hv=>?_⟩
    rw [ho] at hv
    exact ⟨_,by simp [execOp,ho],hv x (by simp [Op.operands])⟩
  · rename_i x ho
    refine ⟨_,h,fun a w S m hv=>?_⟩
    rw [ho] at hv
    exact ⟨_,by simp [execOp,ho],hv x (by simp [Op.operands])⟩
  · rename_i c x y ho
    split at h
    · rename_i q hq
      cases q with
      | true =>
        refine ⟨_,h,fun a w S m hv=>?_⟩
        rw [ho] at hv
        have hc:=hv c (by simp [Op.operands])
        rw [hq] at hc
        simp only [CV] at hc
        exact ⟨_,by simp [execOp,ho,hc,asBool],hv x (by simp [Op.operands])⟩
      | false =>
        refine ⟨_,h,fun a w S m hv=>?_⟩
        rw [ho] at hv
        have hc:=hv c (by simp [Op.operands])
        rw [hq] at hc
        simp only [CV] at hc
        exact ⟨_,by simp [execOp,ho,hc,asBool],hv y (by simp [Op.operands])⟩
    · exact h.elim
  · rename_i op t x y yt ho
    obtain ⟨r,h1,h2⟩:=abin_sound hT h
    refine ⟨r,h1,fun a w S m hv=>?_⟩
    rw [ho] at hv
    obtain ⟨z,e1,e2,e3⟩:=h2 (a.eval x) (a.eval y) w S m x y (hv x (by simp [Op.operands])) (hv y (by simp [Op.operands]))
    exact ⟨z,by simp [execOp,ho,e1,e2],e3⟩
  · rename_i op t x ho
    obtain ⟨r,h1,h2⟩:=aun_sound (P:=P) h
    refine ⟨r,h1,fun a w S m hv=>?_⟩
    rw [ho] at hv
    obtain ⟨z,e1,e2⟩:=h2 S m w _ (hv x (by simp [Op.operands]))
    exact ⟨z,by simp [execOp,ho,e1],e2⟩
  · rename_i s d x ho
    obtain ⟨r,h1,h2⟩:=acv_sound (P:=P) h
    refine ⟨r,h1,fun a w S m hv=>?_⟩
    rw [ho] at hv
    obtain ⟨z,e1,e2⟩:=h2 S m w _ (hv x (by simp [Op.operands]))
    exact ⟨z,by simp [execOp,ho,e1],e2⟩
  · rename_i x i ho
    split at h
    · rename_i vs hq
      obtain ⟨y,h1,h2⟩:=headK_sound h
      refine ⟨y,h2,fun a w S m hv=>?_⟩
      rw [ho] at hv
      have hc:=hv x (by simp [Op.operands])
      rw [hq] at hc
      simp only [CV] at hc
      obtain ⟨us,e,hu⟩:=hc
      rw [List.getElem?_drop] at h1
      obtain ⟨v,hv1,hv2⟩:=hu.get h1
      have hv1':us[i]?=some v:=by simpa using hv1
      exact ⟨v,by simp [execOp,ho,e,Instr.extract,hv1'],hv2⟩
    · exact h.elim
  · rename_i f first caps ho
    obtain ⟨he,h'⟩:=cond_F h
    refine ⟨_,h',fun a w S m hv=>?_⟩
    rw [ho] at hv
    have hf:first=#[]:=by simpa using he
    subst hf
    refine ⟨.func (.func f) #[] (caps.map a.eval),by simp [execOp,ho,Instr.makeFunc],?_⟩
    simp only [CV]
    refine ⟨_,rfl,?_⟩
    rw [Array.toList_map]
    exact CVl.map _ (fun x hx=>hv x (by simp [Op.operands]; exact Array.mem_toList_iff.1 hx))
  · rename_i x ho
    split at h
    all_goals first
      | exact h.elim
      | (rename_i hq
         refine ⟨_,h,fun a w S m hv=>?_⟩
         rw [ho] at hv
         have hc:=hv x (by simp [Op.operands])
         rw [hq] at hc
         have hc':=hc
         simp only [CV] at hc
         first
           | (obtain ⟨g,e1,e2⟩:=hc; exact ⟨_,by simp [execOp,ho,e2]; rfl,by rw [← e2]; exact hc'⟩)
           | (obtain ⟨g,o',e1,e2⟩:=hc; exact ⟨_,by simp [execOp,ho,e1]; rfl,by rw [← e1]; exact hc'⟩)
           | (obtain ⟨us,e1,e2⟩:=hc; exact ⟨_,by simp [execOp,ho,e1]; rfl,by rw [← e1]; exact hc'⟩)
           | (obtain ⟨a1,e1,e2⟩:=hc; exact ⟨_,by simp [execOp,ho,e1]; rfl,by rw [← e1]; exact hc'⟩))
  · rename_i t x f ho
    obtain ⟨r,h1,h2⟩:=afl_sound h
    refine ⟨r,h1,fun a w S m hv=>?_⟩
    rw [ho] at hv
    obtain ⟨z,e1,e2⟩:=h2 S m w _ (hv x (by simp [Op.operands]))
    exact ⟨z,by simp [execOp,ho,e1],e2⟩
  · rename_i t x f ho
    obtain ⟨r,h1,h2⟩:=afa_sound h
    refine ⟨r,h1,fun a w S m hv=>?_⟩
    rw [ho] at hv
    obtain ⟨z,e1,e2⟩:=h2 S m w _ (hv x (by simp [Op.operands]))
    exact ⟨z,by simp [execOp,ho,e1],e2⟩
  · rename_i t x i ho
    obtain ⟨r,h1,h2⟩:=aix_sound h
    refine ⟨r,h1,fun a w S m hv=>?_⟩
    rw [ho] at hv
    obtain ⟨z,e1,e2⟩:=h2 S m w _ _ (hv x (by simp [Op.operands])) (hv i (by simp [Op.operands]))
    exact ⟨z,by simp [execOp,ho,e1],e2⟩
  · rename_i t x i ho
    obtain ⟨r,h1,h2⟩:=aia_sound h
    refine ⟨r,h1,fun a w S m hv=>?_⟩
    rw [ho] at hv
    obtain ⟨z,e1,e2⟩:=h2 S m w _ _ (hv x (by simp [Op.operands])) (hv i (by simp [Op.operands]))
    exact ⟨z,by simp [execOp,ho,e1],e2⟩
  · rename_i t x lo hi mx ho
    obtain ⟨r,h1,h2⟩:=asli_sound h
    refine ⟨r,h1,fun a w S m hv=>?_⟩
    rw [ho] at hv
    obtain ⟨z,e1,e2⟩:=h2 S m w _ _ _ _ (hv x (by simp [Op.operands])) (opt_map lo (fun y hy=>hv y (by simp [Op.operands] at hy ⊢; simp [hy]))) (opt_map hi (fun y hy=>hv y (by simp [Op.operands] at hy ⊢; simp [hy]))) (opt_map mx (fun y hy=>hv y (by simp [Op.operands] at hy ⊢; simp [hy])))
    exact ⟨z,by simp [execOp,ho,e1],e2⟩
  · rename_i t parts ho
    obtain ⟨r,h1,h2⟩:=bldK_sound h
    refine ⟨_,h1,fun a w S m hv=>?_⟩
    rw [ho] at hv
    obtain ⟨z,e1,e2⟩:=h2 S m w (parts.map fun p=>(p.1,a.eval p.2)) (by simp) (fun j p q hp hq=>by
      simp only [List.getElem?_map,Array.toList_map] at hp hq
      cases hj:parts.toList[j]? with
      | none=>simp [hj] at hp
      | some u =>
        simp only [hj,Option.map_some,Option.some.injEq] at hp hq
        subst hp hq
        exact ⟨rfl,hv u.2 (by simp only [Op.operands,List.mem_toArray,List.mem_map]; exact ⟨u,List.mem_of_getElem? hj,rfl⟩)⟩)
    exact ⟨z,by simp only [execOp,ho]; simp [e1],nlsA_cv e2⟩
  · rename_i c ho
    split at h
    · rename_i b hb
      obtain ⟨r,h1,h2⟩:=abu_sound h
      refine ⟨r,h1,fun a w S m hv=>?_⟩
      rw [ho] at hv
      have e:∃ cs,execOp a.eval o=builtin b c.argTypes o.type cs (c.args.map a.eval):=⟨_,by simp only [execOp,ho,resolve,hb,invoke]; rfl⟩
      obtain ⟨cs,e⟩:=e
      obtain ⟨z,e1,e2⟩:=h2 S m w o.type cs (c.args.map a.eval) (by
        rw [Array.toList_map]
        exact CVl.map _ (fun x hx=>hv x (by simp [Op.operands,Call.operands,hb]; exact Array.mem_toList_iff.1 hx)))
      exact ⟨z,by simp only [Array.toArray_toList] at e1; rw [e,e1],e2⟩
    · exact h.elim
  · exact h.elim
end Go.Proofs.YtgbbmadjdaphnaaGreatDoor
namespace Go.Proofs.YtgbbmadjdaphnaaGreatDoor
open Go
open Go.RowKit (Below)
set_option linter.unusedVariables false
set_option linter.unusedSimpArgs false
def exSh:List Nat→List AV→(List AV→Prop)→Prop
 | _,[],k=>k []
 | sz,.int kd _::zs,k=>∃ n:Int,exSh sz zs fun l=>k (.int kd n::l)
 | sz,.bool _::zs,k=>∃ b:Bool,exSh sz zs fun l=>k (.bool b::l)
 | sz,.str _::zs,k=>∃ s:ByteArray,exSh sz zs fun l=>k (.str s::l)
 | [],.nils::zs,k=>∃ (s:Nat) (xs:List (List AV)),exSh [] zs fun l=>k (.sl s false xs::l)
 | s::sz,.nils::zs,k=>cond (Nat.ble 1000000 s) (∃ n:Nat,exSh sz zs fun l=>k (.rw (Nat.div s 1000) (Nat.mod s 1000) n::l)) (∃ xs:List (List AV),exSh sz zs fun l=>k (.sl s false xs::l))
 | _,_,_=>False
theorem exSh_sound:∀ (sz:List Nat) (zs:List AV) (k:List AV→Prop),exSh sz zs k→∃ l,k l
 | _,[],k,h=>⟨_,by simpa only [exSh] using h⟩
 | sz,x::zs,k,h=>by
  cases x
  case int=>simp only [exSh] at h; obtain ⟨n,h⟩:=h; obtain ⟨l,hl⟩:=exSh_sound _ zs _ h; exact ⟨_,hl⟩
  case bool=>simp only [exSh] at h; obtain ⟨n,h⟩:=h; obtain ⟨l,hl⟩:=exSh_sound _ zs _ h; exact ⟨_,hl⟩
  case str=>simp only [exSh] at h; obtain ⟨n,h⟩:=h; obtain ⟨l,hl⟩:=exSh_sound _ zs _ h; exact ⟨_,hl⟩
  case nils =>
   cases sz with
   | nil=>simp only [exSh] at h; obtain ⟨s,xs,h⟩:=h; obtain ⟨l,hl⟩:=exSh_sound _ zs _ h; exact ⟨_,hl⟩
   | cons s sz =>
    simp only [exSh] at h
    cases hb:Nat.ble 1000000 s with
    | true=>rw [hb] at h; obtain ⟨n,h⟩:=h; obtain ⟨l,hl⟩:=exSh_sound _ zs _ h; exact ⟨_,hl⟩
    | false=>rw [hb] at h; obtain ⟨xs,h⟩:=h; obtain ⟨l,hl⟩:=exSh_sound _ zs _ h; exact ⟨_,hl⟩
  all_goals (cases sz <;> simp only [exSh] at h)
def LoadsTo (P:Program) (t:TypeId) (cs:List AV) (r:AV):Prop :=
 (∃ d i,P.underlying t=some d∧isAg P t=true∧P.info? t=some i∧i.size≤cs.length∧r=.agg (cs.take i.size))∨(∃ d,P.underlying t=some d∧isAg P t=false∧cs[0]?=some r)
def loadK (P:Program) (E:Env) (d:Option Nat) (t:TypeId) (cs:List AV) (K:AV→Prop):Prop :=
 cond (match d with | some q=>inT q E.shape | none=>false) (zeroA P t fun zs=>exSh (match d with | some q=>(match lk E.slz q with | some l=>l | none=>[]) | none=>[]) zs fun l=>cs.take l.length=l∧partK P t l K) (partK P t cs K)
theorem loadK_sound {P:Program} {E:Env} {d:Option Nat} {t:TypeId} {cs:List AV} {K:AV→Prop} (h:loadK P E d t cs K):∃ r,K r∧LoadsTo P t cs r:=by
 unfold loadK at h
 have key:∀ l,cs.take l.length=l→partK P t l K→∃ r,K r∧LoadsTo P t cs r:=by
  intro l hl hp
  rcases partK_cases hp with ⟨d,i,h1,h2,h3,h4,h5⟩ | ⟨d,x,h1,h2,h3,h4⟩
  ·refine ⟨_,h5,.inl ⟨d,i,h1,h2,h3,?_,?_⟩⟩
   ·have:l.length≤cs.length:=by rw [← hl]; simp; omega
    omega
   ·rw [← hl,List.take_take,Nat.min_eq_left h4]
  ·refine ⟨x,h4,.inr ⟨d,h1,h2,?_⟩⟩
   rw [← hl,List.getElem?_take] at h3
   split at h3
   ·exact h3
   ·cases h3
 cases hb:(match d with | some q=>inT q E.shape | none=>false) with
 | true =>
  rw [hb] at h
  simp only [cond_true] at h
  obtain ⟨i,z,_,_,h',_⟩:=zeroA_sound h
  obtain ⟨l,h1,h2⟩:=exSh_sound _ _ _ h'
  exact key l h1 h2
 | false =>
  rw [hb] at h
  simp only [cond_false] at h
  exact key cs (List.take_length) h
theorem CC.vals {S:Pin}:∀ {xs:List AV} {b o:Nat},CC S xs b o→∃ vs:List Value,(∀ (j:Nat) (v:Value),vs[j]?=some v→S b (o+j)=some v)∧CVl S xs noNm vs
 | [],_,_,_=>⟨[],by simp,by simp only [CVl]⟩
 | x::xs,b,o,h=>by
  simp only [CC] at h
  obtain ⟨⟨u,hu,hx⟩,h2⟩:=h
  obtain ⟨vs,h3,h4⟩:=CC.vals h2
  refine ⟨u::vs,fun j v e=>?_,by simp only [CVl]; exact ⟨u,vs,rfl,hx,h4⟩⟩
  cases j with
  | zero=>simp at e; subst e; exact hu
  | succ j=>simp at e; rw [← h3 j v e]; congr 1; omega
theorem CVl.take {S:Pin} {xs:List AV} {m:Nm} {vs:List Value} (h:CVl S xs m vs) (n:Nat):CVl S (xs.take n) m (vs.take n):=by
 have:=h.len
 refine CVl.mk (by simp; omega) fun j x v e1 e2=>?_
 rw [List.getElem?_take] at e1 e2
 split at e1
 ·rename_i hj
  rw [if_pos hj] at e2
  obtain ⟨u,hu,hx⟩:=h.get e1
  rw [e2] at hu
  injection hu with hu
  subst hu; exact hx
 ·cases e1
theorem CVl.drop {S:Pin} {xs:List AV} {m:Nm} {vs:List Value} (h:CVl S xs m vs) (n:Nat):CVl S (xs.drop n) m (vs.drop n):=by
 have:=h.len
 refine CVl.mk (by simp; omega) fun j x v e1 e2=>?_
 rw [List.getElem?_drop] at e1 e2
 obtain ⟨u,hu,hx⟩:=h.get e1
 rw [e2] at hu
 injection hu with hu
 subst hu; exact hx
theorem run_loads {P:Program} {t:TypeId} {cs:List AV} {r:AV} (h:LoadsTo P t cs r) {w:World} {g o:Nat} {S:Pin} {m:Nm} {vs:List Value} (hc:CVl S cs m vs)
  (hv:∀ (j:Nat) (v:Value),vs[j]?=some v→w.cell? ⟨g,o+j,none⟩=some v):∃ z,(Instr.loadAt t (.pointer (some ⟨g,o,none⟩))).run P w=.ok z w∧CV S r m z:=by
 rcases h with ⟨d,i,h1,h2,h3,h4,rfl⟩ | ⟨d,h1,h2,h3⟩
 ·refine ⟨.agg (vs.take i.size).toArray,?_,?_⟩
  ·have hl:(vs.take i.size).length=i.size:=by have:=hc.len; simp; omega
   have:=run_loadCells_list (P:=P) w ⟨g,o,none⟩ (vs.take i.size) (fun j v e=>by
    rw [add_none]
    refine hv j v ?_
    rw [List.getElem?_take] at e
    split at e
    ·exact e
    ·cases e)
   rw [hl] at this
   simp [Instr.loadAt,Instr.sureAddr,loadVar,run_isAgg h1,h2,sizeOf,typeInfo,h3,this]
  ·simp only [CV]
   exact ⟨_,rfl,by simpa using hc.take i.size⟩
 ·obtain ⟨v,hv1,hv2⟩:=hc.get h3
  have:=hv 0 v hv1
  simp only [Nat.add_zero] at this
  exact ⟨v,by simp [Instr.loadAt,Instr.sureAddr,loadVar,run_isAgg h1,h2,this],hv2⟩
def aload (P:Program) (E:Env) (d:Option Nat) (t:TypeId) (x:AV) (h:Nat→Option Blk) (K:AV→List (Nat × Blk)→List Nat→Prop):Prop :=
 match x with
 | .ptr k off=>(match h k with | some (.cells cs)=>loadK P E d t (cs.drop off) fun r=>K r [] [k] | _=>False)
 | .ro cs=>loadK P E d t cs fun r=>K r [] []
 | .prw k s q j fo=>(match h k with
  | some (.row _ s' xs)=>cond (Nat.beq s s') (chk (q=xs.length∧j < xs.length) (loadK P E d t ((xs.getD j []).drop fo) fun r=>K r [] [k])) False
  | some (.nrow _ s' _ xs)=>cond (Nat.beq s s') (chk (q=xs.length∧j < xs.length) (loadK P E d t ((xs.getD j []).drop fo) fun r=>K r [] [k])) False
  | _=>False)
 | _=>False
theorem Held.open {S:Pin} {m:Nm} {w:World} {k e s:Nat} {ks:List Nat} {xs:List (List AV)} (h:Held S m w k (.nrow e s ks xs)):Held S m w k (.row (e+2000000) s xs):=h.1
theorem row_vals {S:Pin} {m:Nm} {w:World} {k e s j:Nat} {xs:List (List AV)} (h:Held S m w k (.row e s xs)) (hj:j < xs.length):∃ g q d cur fr,m k=some (.iface 0 (.slice (some ⟨g,0,none⟩) q d))∧w.heap[g]?=some (.cells cur (rowTy e) fr)∧RowMk e cur.size fr∧cur.size=d*s∧xs.length≤d∧(xs.getD j []).length=s∧(∀ o,S g o=none) ∧
  ∃ vs,CVl S (xs.getD j []) (rowNm e m) vs∧∀ (i:Nat) (v:Value),vs[i]?=some v→cur[j*s+i]?=some v:=by
 obtain ⟨A,c,h1,h2,h3,h6⟩:=h
 obtain ⟨g,cur,fr,rfl,h7,hfr,h8,h9,h10⟩:=h6.resolve_left (fun e=>by have:=e.2; omega)
 have e1:xs[j]?=some (xs.getD j []):=by rw [List.getD_eq_getElem?_getD,List.getElem?_eq_getElem hj]; rfl
 obtain ⟨hl,hv⟩:=h10 j _ e1
 have hsz:j*s+s≤cur.size:=by
  rw [h8,← Nat.succ_mul]; exact Nat.mul_le_mul_right s (by omega)
 refine ⟨g,xs.length,c,cur,fr,h1,h7,hfr,h8,h2,hl,h9,(cur.toList.drop (j*s)).take s,CVl.mk (by rw [hl,List.length_take,List.length_drop,Array.length_toList]; omega) (fun i y v e2 e3=>?_),fun i v e=>?_⟩
 ·obtain ⟨u,hu,_,hy⟩:=hv i y e2
  rw [List.getElem?_take] at e3
  split at e3
  ·rw [List.getElem?_drop] at e3
   have:cur[j*s+i]?=some v:=by simpa using e3
   rw [hu] at this
   injection this with this
   subst this; exact hy
  ·cases e3
 ·rw [List.getElem?_take] at e
  split at e
  ·rw [List.getElem?_drop] at e
   simpa using e
  ·cases e
theorem prw_ptr {S:Pin} {m:Nm} {k s q j fo:Nat} {v:Value} {A:Option Addr} {n c:Nat} (hm:m k=some (.iface 0 (.slice A n c))) (hq:q=n) (hv:CV S (.prw k s q j fo) m v):∃ g,A=some ⟨g,0,none⟩∧v=.pointer (some ⟨g,j*s+fo,none⟩):=by
 simp only [CV] at hv
 obtain ⟨a,rfl,_,A1,q1,c1,h1,_,h2⟩:=hv
 rw [hm] at h1
 injection h1 with h1
 injection h1 with _ h1
 injection h1 with h3 h4 h5
 subst h3; subst h4
 obtain ⟨g,e1,e2⟩:=h2 hq
 exact ⟨g,e1,by rw [e2]⟩
theorem prw_at {S:Pin} {m:Nm} {w:World} {k e s q j fo:Nat} {xs:List (List AV)} {v:Value} (h:Held S m w k (.row e s xs)) (hq:q=xs.length) (hj:j < xs.length) (hv:CV S (.prw k s q j fo) m v) :
  ∃ g cur fr,v=.pointer (some ⟨g,j*s+fo,none⟩)∧w.heap[g]?=some (.cells cur (rowTy e) fr)∧∃ vs,CVl S (xs.getD j []) (rowNm e m) vs∧∀ (i:Nat) (u:Value),vs[i]?=some u→cur[j*s+i]?=some u:=by
 obtain ⟨g,q1,d,cur,fr,e1,e2,_,e3,_,e4,e5,vs,e6,e7⟩:=row_vals h hj
 obtain ⟨A,c,h1,_⟩:=h
 obtain ⟨g',h2,h3⟩:=prw_ptr h1 hq hv
 subst h2
 rw [h1] at e1
 injection e1 with e1
 injection e1 with _ e1
 injection e1 with e1 _ _
 injection e1 with e1
 injection e1 with e1
 subst e1
 exact ⟨g',cur,fr,h3,e2,vs,e6,e7⟩
theorem RowMk.free {e n:Nat} {fr:Nat × Nat} (h:RowMk e n fr):∀ o,o < n→¬ (fr.1≤o∧o < fr.2):=by
 intro o ho
 rcases h with rfl | ⟨_,_,h⟩
 ·simp
 ·omega
theorem run_storeCells_fr (P:Program) (g o:Nat) (t:TypeId) (fz:Nat × Nat):∀ (vs:List Value) (i:Nat) (cur:Array Value) (w:World),w.heap[g]?=some (.cells cur t fz)→(∀ j,j < cur.size→¬ (fz.1≤j∧j < fz.2))→o+i+vs.length≤cur.size→(∀ v ∈ vs,v.oneCell'=true) →
  (storeCells ⟨g,o,none⟩ vs i).run P w=.ok () (w.setRow g (cur.toList.take (o+i)++vs++cur.toList.drop (o+i+vs.length)).toArray)
 | [],i,cur,w,hg,_,_,_=>by
  simp only [storeCells,List.append_nil,List.length_nil,Nat.add_zero,List.take_append_drop,Array.toArray_toList]
  rw [setRow_self w g cur t fz hg]
  rfl
 | v::rest,i,cur,w,hg,hfz,hl,h1=>by
  have hi:o+i < cur.size:=by simp at hl; omega
  have hcell:w.cell? ⟨g,o+i,none⟩=some cur[o+i]:=by simp [World.cell?,hg,hi]
  have hfro:w.frozen? ⟨g,o+i,none⟩=false:=by
   have:=hfz _ hi
   obtain ⟨lo,up⟩:=fz
   simp only [World.frozen?,hg,Bool.and_eq_false_iff,decide_eq_false_iff_not]
   simp only at this
   omega
  have hst:(store ((⟨g,o,none⟩:Addr).add i) v).run P w=.ok () (w.setRow g (cur.setIfInBounds (o+i) v)):=by
   rw [add_none,run_store P w _ v _ (h1 v (by simp)),hcell]
   simp [hfro,setCell_eq_setRow w g (o+i) cur t fz v hg]
  have ih:=run_storeCells_fr P g o t fz rest (i+1) (cur.setIfInBounds (o+i) v) (w.setRow g (cur.setIfInBounds (o+i) v)) (setRow_heap w g cur _ t _ hg) (by simpa using hfz) (by simp at hl ⊢; omega) (fun x hx=>h1 x (by simp [hx]))
  simp only [storeCells,Sem.run_bind,hst,Result.andThen_ok,ih,setRow_setRow]
  congr 3
  have e:=list_seg_step cur.toList (o+i) v rest (by simp at hl ⊢; omega)
  simpa [Array.toList_setIfInBounds,Nat.add_assoc] using e
theorem aload_sound {P:Program} {E:Env} {nt:Nat} {o:Oper} {t:TypeId} {x:Operand} {ev:Operand→AV} {h:Nat→Option Blk} {K:AV→List (Nat × Blk)→List Nat→Prop} (ho:o.op=.load t x) (hd:dstOk nt o.dst=true)
  (H:aload P E o.dst t (ev x) h K):∃ r rd,K r [] rd∧Good P E nt o ev h r [] rd:=by
 unfold aload at H
 split at H
 ·rename_i k off hx
  split at H
  ·rename_i cs hk
   obtain ⟨r,h1,h2⟩:=loadK_sound H
   refine ⟨r,[k],h1,good_value hd fun G kp st a w S m hG hR he hrd hf=>?_⟩
   have hv:=he x (by rw [ho]; simp [Op.operands])
   rw [hx] at hv
   simp only [CV] at hv
   obtain ⟨g,hm,hv⟩:=hv
   obtain ⟨g',arr,ty,e1,e2,e3,e4⟩:=hR.held k _ (by rw [hrd k (by simp)]; exact hk)
   rw [hm] at e1
   injection e1 with e1
   injection e1 with e1
   injection e1 with e1
   injection e1 with e1
   subst e1
   obtain ⟨z,q1,q2⟩:=run_loads (w:=w) (g:=g) (o:=off) h2 (e3.drop off) (fun j v e=>by
    rw [List.getElem?_drop] at e
    rw [cell_of_row w g (off+j) arr ty (0,0) e2]
    simpa using e)
   exact ⟨z,w,S,m,by simp [execOp,ho,hv,q1],hR,q2⟩
  ·exact H.elim
 ·rename_i cs hx
  obtain ⟨r,h1,h2⟩:=loadK_sound H
  refine ⟨r,[],h1,good_value hd fun G kp st a w S m hG hR he hrd hf=>?_⟩
  have hv:=he x (by rw [ho]; simp [Op.operands])
  rw [hx] at hv
  simp only [CV] at hv
  obtain ⟨b,off,hv,hc⟩:=hv
  obtain ⟨vs,e1,e2⟩:=hc.vals
  obtain ⟨z,q1,q2⟩:=run_loads (w:=w) (g:=b) (o:=off) h2 (e2.ext (Ext.refl S) (MLe.no m)) (fun j v e=>(hR.agree _ _ _ (e1 j v e)).1)
  exact ⟨z,w,S,m,by simp [execOp,ho,hv,q1],hR,q2⟩
 ·rename_i k s q j fo hx
  split at H
  ·rename_i e s' xs hk
   obtain ⟨hs,H0⟩:=cond_F H
   have hs:=Nat.eq_of_beq_eq_true hs
   subst hs
   obtain ⟨⟨hq,hj⟩,H1⟩:=chk_iff.1 H0
   obtain ⟨r,h1,h2⟩:=loadK_sound H1
   refine ⟨r,[k],h1,good_value hd fun G kp st a w S m hG hR he hrd hf=>?_⟩
   have hv:=he x (by rw [ho]; simp [Op.operands])
   rw [hx] at hv
   obtain ⟨g,cur,fr,hv,e2,vs,e6,e7⟩:=prw_at (hR.held k _ (by rw [hrd k (by simp)]; exact hk)) hq hj hv
   obtain ⟨z,q1,q2⟩:=run_loads (w:=w) (g:=g) (o:=j*s+fo) h2 ((e6.drop fo).ext (Ext.refl S) (rowNm_le e m)) (fun i v e=>by
    rw [List.getElem?_drop] at e
    rw [cell_of_row w g _ cur _ fr e2,Nat.add_assoc]
    exact e7 _ v e)
   exact ⟨z,w,S,m,by simp [execOp,ho,hv,q1],hR,q2⟩
  ·rename_i e s' ks xs hk
   obtain ⟨hs,H0⟩:=cond_F H
   have hs:=Nat.eq_of_beq_eq_true hs
   subst hs
   obtain ⟨⟨hq,hj⟩,H1⟩:=chk_iff.1 H0
   obtain ⟨r,h1,h2⟩:=loadK_sound H1
   refine ⟨r,[k],h1,good_value hd fun G kp st a w S m hG hR he hrd hf=>?_⟩
   have hv:=he x (by rw [ho]; simp [Op.operands])
   rw [hx] at hv
   obtain ⟨g,cur,fr,hv,e2,vs,e6,e7⟩:=prw_at (Held.open (hR.held k _ (by rw [hrd k (by simp)]; exact hk))) hq hj hv
   obtain ⟨z,q1,q2⟩:=run_loads (w:=w) (g:=g) (o:=j*s+fo) h2 ((e6.drop fo).ext (Ext.refl S) (rowNm_le _ m)) (fun i v e=>by
    rw [List.getElem?_drop] at e
    rw [cell_of_row w g _ cur _ fr e2,Nat.add_assoc]
    exact e7 _ v e)
   exact ⟨z,w,S,m,by simp [execOp,ho,hv,q1],hR,q2⟩
  ·exact H.elim
 ·exact H.elim
theorem good_skip {P:Program} {E:Env} {nt:Nat} {o:Oper} {ev:Operand→AV} {h:Nat→Option Blk} {u:List (Nat × Blk)} {rd:List Nat} (hd:o.dst=none)
  (H:∀ (G:Gh) (kp:List Nat) (st:St) (a:Act) (w:World) (S:Pin) (m:Nm),GOK E G.S0→Rel G kp st a w S m→(∀ x ∈ o.op.operands,CV S (ev x) m (a.eval x))→(∀ k ∈ rd,lk st.heap k=h k)→(∀ p ∈ u,p.1 ∉ rd→fresh kp st p.1=true) →
   ∃ w' S' m',(execOp a.eval o).run P w=.ok .skip w'∧Rel G kp (st.blks u) a w' S' m'):Good P E nt o ev h .undef u rd:=by
 intro G kp st a w S m next Q hG hR hn he hk hf hnext
 obtain ⟨w',S',m',h1,h2⟩:=H G kp st a w S m hG hR (fun x hx=>he x hx ▸ evO_cv hG hR x) hk hf
 unfold Oper.wp
 rw [h1]
 refine hnext undef w' S' m' (by simp only [wfA]) ?_
 unfold St.upd
 rw [hd]
 exact h2
mutual
def strip:AV→(AV→Prop)→Prop
 | .acc _ s xs,k=>k (.sl s false xs)
 | .agg cs,k=>stripL cs fun l=>k (.agg l)
 | .fn f cs,k=>stripL cs fun l=>k (.fn f l)
 | .tup cs,k=>stripL cs fun l=>k (.tup l)
 | .int q n,k=>k (.int q n)
 | .bool b,k=>k (.bool b)
 | .str s,k=>k (.str s)
 | .sl s f xs,k=>k (.sl s f xs)
 | .nils,k=>k .nils
 | .ro cs,k=>k (.ro cs)
 | .nilp,k=>k .nilp
 | .undef,k=>k .undef
 | .dead,k=>k .dead
 | .frz _ s n xs,k=>chk (n=xs.length) (k (.sl s false xs))
 | _,_=>False
def stripL:List AV→(List AV→Prop)→Prop
 | [],k=>k []
 | x::xs,k=>strip x fun y=>stripL xs fun l=>k (y::l)
end
mutual
theorem strip_sound:∀ (x:AV) (k:AV→Prop),strip x k→∃ y,k y∧∀ S m v,CV S x m v→CV S y noNm v
 | .acc i s xs,k,h=>by
  simp only [strip] at h
  refine ⟨_,h,fun S m v hv=>?_⟩
  simp only [CV] at hv ⊢
  obtain ⟨⟨A,c,e,h1,h2,h3,h4⟩,_⟩:=hv
  exact ⟨A,c,e,h1,h2,(fun q=>by cases q),h3,h4⟩
 | .agg cs,k,h=>by
  simp only [strip] at h
  obtain ⟨l,h1,h2⟩:=stripL_sound cs _ h
  refine ⟨_,h1,fun S m v hv=>?_⟩
  simp only [CV] at hv ⊢
  obtain ⟨us,e,hu⟩:=hv
  exact ⟨us,e,h2 S m _ hu⟩
 | .fn f cs,k,h=>by
  simp only [strip] at h
  obtain ⟨l,h1,h2⟩:=stripL_sound cs _ h
  refine ⟨_,h1,fun S m v hv=>?_⟩
  simp only [CV] at hv ⊢
  obtain ⟨us,e,hu⟩:=hv
  exact ⟨us,e,h2 S m _ hu⟩
 | .tup cs,k,h=>by
  simp only [strip] at h
  obtain ⟨l,h1,h2⟩:=stripL_sound cs _ h
  refine ⟨_,h1,fun S m v hv=>?_⟩
  simp only [CV] at hv ⊢
  obtain ⟨us,e,hu⟩:=hv
  exact ⟨us,e,h2 S m _ hu⟩
 | .ptr _ _,_,h=>by simp [strip] at h
 | .ms _ _ _ _ _,_,h=>by simp [strip] at h
 | .rw _ _ _,_,h=>by simp [strip] at h
 | .mw _ _ _ _ _ _,_,h=>by simp [strip] at h
 | .prw _ _ _ _ _,_,h=>by simp [strip] at h
 | .mpv _,_,h=>by simp [strip] at h
 | .frz i s n xs,k,h=>by
  simp only [strip] at h
  obtain ⟨hn,h'⟩:=chk_iff.1 h
  refine ⟨_,h',fun S m v hv=>?_⟩
  simp only [CV] at hv ⊢
  obtain ⟨⟨A,c,e,h1,h2,h3,h4⟩,_⟩:=hv.2 hn
  exact ⟨A,c,e,h1,h2,(fun q=>by cases q),h3,h4⟩
 | .int q n,k,h=>by simp only [strip] at h; exact ⟨_,h,fun S m v hv=>by simp only [CV] at hv ⊢; exact hv⟩
 | .bool b,k,h=>by simp only [strip] at h; exact ⟨_,h,fun S m v hv=>by simp only [CV] at hv ⊢; exact hv⟩
 | .str s,k,h=>by simp only [strip] at h; exact ⟨_,h,fun S m v hv=>by simp only [CV] at hv ⊢; exact hv⟩
 | .sl s f xs,k,h=>by simp only [strip] at h; exact ⟨_,h,fun S m v hv=>by simp only [CV] at hv ⊢; exact hv⟩
 | .nils,k,h=>by simp only [strip] at h; exact ⟨_,h,fun S m v hv=>by simp only [CV] at hv ⊢; exact hv⟩
 | .ro cs,k,h=>by simp only [strip] at h; exact ⟨_,h,fun S m v hv=>by simp only [CV] at hv ⊢; exact hv⟩
 | .nilp,k,h=>by simp only [strip] at h; exact ⟨_,h,fun S m v hv=>by simp only [CV] at hv ⊢; exact hv⟩
 | .undef,k,h=>by simp only [strip] at h; exact ⟨_,h,fun S m v hv=>by simp only [CV] at hv ⊢; exact hv⟩
 | .dead,k,h=>by simp only [strip] at h; exact ⟨_,h,fun S m v hv=>by simp only [CV]⟩
theorem stripL_sound:∀ (xs:List AV) (k:List AV→Prop),stripL xs k→∃ l,k l∧∀ S m vs,CVl S xs m vs→CVl S l noNm vs
 | [],k,h=>by
  simp only [stripL] at h
  exact ⟨_,h,fun S m vs hv=>by simp only [CVl] at hv ⊢; exact hv⟩
 | x::xs,k,h=>by
  simp only [stripL] at h
  obtain ⟨y,h1,h2⟩:=strip_sound x _ h
  obtain ⟨l,h3,h4⟩:=stripL_sound xs _ h1
  refine ⟨_,h3,fun S m vs hv=>?_⟩
  simp only [CVl] at hv ⊢
  obtain ⟨u,us,e,hu,hus⟩:=hv
  exact ⟨u,us,e,h2 S m u hu,h4 S m us hus⟩
end
def stripE (e:Nat) (xs:List AV) (k:List AV→Prop):Prop:=cond (Nat.blt e 2000000) (stripL xs k) (k xs)
theorem stripE_sound {e:Nat} {xs:List AV} {k:List AV→Prop} (h:stripE e xs k):∃ l,k l∧∀ S m vs,CVl S xs m vs→CVl S l (rowNm e m) vs:=by
 unfold stripE at h
 cases hb:Nat.blt e 2000000 with
 | true =>
  rw [hb] at h
  obtain ⟨l,h1,h2⟩:=stripL_sound _ _ h
  have he:e < 2000000:=Nat.le_of_ble_eq_true hb
  exact ⟨l,h1,fun S m vs hv=>by rw [rowNm_lo he]; exact h2 S m vs hv⟩
 | false =>
  rw [hb] at h
  have he:¬ e < 2000000:=fun q=>by
   have:Nat.blt e 2000000=true:=Nat.ble_eq_true_of_le q
   rw [hb] at this; cases this
  exact ⟨xs,h,fun S m vs hv=>by rw [rowNm_hi he]; exact hv⟩
def setEl (xs:List (List AV)) (j fo:Nat) (ys:List AV):List (List AV):=xs.set j (spl (xs.getD j []) fo ys)
def flatC:AV→(AV→Prop)→Prop
 | .acc _ s xs,k=>k (.sl s false xs)
 | .frz _ s n xs,k=>chk (n=xs.length) (k (.sl s false xs))
 | .int q n,k=>k (.int q n)
 | .bool b,k=>k (.bool b)
 | .str s,k=>k (.str s)
 | .sl s f xs,k=>k (.sl s f xs)
 | .nils,k=>k .nils
 | .ro cs,k=>k (.ro cs)
 | .nilp,k=>k .nilp
 | .undef,k=>k .undef
 | .dead,k=>k .dead
 | _,_=>False
theorem flatC_sound:∀ (x:AV) (k:AV→Prop),flatC x k→∃ y,k y∧(∀ j,nn j y=true)∧∀ S m v,CV S x m v→CV S y m v
 | .acc i s xs,k,h=>by
  simp only [flatC] at h
  refine ⟨_,h,fun j=>rfl,fun S m v hv=>?_⟩
  simp only [CV] at hv ⊢
  obtain ⟨⟨A,c,e,h1,h2,h3,h4⟩,_⟩:=hv
  exact ⟨A,c,e,h1,h2,(fun q=>by cases q),h3,h4⟩
 | .frz i s n xs,k,h=>by
  simp only [flatC] at h
  obtain ⟨hn,h'⟩:=chk_iff.1 h
  refine ⟨_,h',fun j=>rfl,fun S m v hv=>?_⟩
  simp only [CV] at hv ⊢
  obtain ⟨⟨A,c,e,h1,h2,h3,h4⟩,_⟩:=hv.2 hn
  exact ⟨A,c,e,h1,h2,(fun q=>by cases q),h3,h4⟩
 | .int q n,k,h=>by simp only [flatC] at h; exact ⟨_,h,fun j=>rfl,fun S m v hv=>hv⟩
 | .bool b,k,h=>by simp only [flatC] at h; exact ⟨_,h,fun j=>rfl,fun S m v hv=>hv⟩
 | .str s,k,h=>by simp only [flatC] at h; exact ⟨_,h,fun j=>rfl,fun S m v hv=>hv⟩
 | .sl s f xs,k,h=>by simp only [flatC] at h; exact ⟨_,h,fun j=>rfl,fun S m v hv=>hv⟩
 | .nils,k,h=>by simp only [flatC] at h; exact ⟨_,h,fun j=>rfl,fun S m v hv=>hv⟩
 | .ro cs,k,h=>by simp only [flatC] at h; exact ⟨_,h,fun j=>rfl,fun S m v hv=>hv⟩
 | .nilp,k,h=>by simp only [flatC] at h; exact ⟨_,h,fun j=>rfl,fun S m v hv=>hv⟩
 | .undef,k,h=>by simp only [flatC] at h; exact ⟨_,h,fun j=>rfl,fun S m v hv=>hv⟩
 | .dead,k,h=>by simp only [flatC] at h; exact ⟨_,h,fun j=>rfl,fun S m v hv=>hv⟩
 | .agg _,_,h=>by simp [flatC] at h
 | .tup _,_,h=>by simp [flatC] at h
 | .fn _ _,_,h=>by simp [flatC] at h
 | .ptr _ _,_,h=>by simp [flatC] at h
 | .ms _ _ _ _ _,_,h=>by simp [flatC] at h
 | .rw _ _ _,_,h=>by simp [flatC] at h
 | .mw _ _ _ _ _ _,_,h=>by simp [flatC] at h
 | .prw _ _ _ _ _,_,h=>by simp [flatC] at h
 | .mpv _,_,h=>by simp [flatC] at h
def frcN (n:Nat) (k:Nat→Prop):Prop:=match n with | 0=>k 0 | m+1=>k (Nat.succ m)
theorem frcN_eq (n:Nat) (k:Nat→Prop):frcN n k=k n:=by cases n <;> rfl
def keepR:List AV→List Nat→(List AV→List Nat→Prop)→Prop
 | [],ks,k=>k [] ks
 | .rw j s n::l,ks,k=>frcN j fun j=>keepR l (cond (inL j ks) ks (j::ks)) fun l' ks'=>k (.rw j s n::l') ks'
 | x::l,ks,k=>flatC x fun y=>keepR l ks fun l' ks'=>k (y::l') ks'
theorem keepR_sound:∀ (xs:List AV) (ks:List Nat) (k:List AV→List Nat→Prop),keepR xs ks k→∃ ys ks',k ys ks'∧ys.length=xs.length∧(∀ j,inL j ks=true→inL j ks'=true)∧(∀ (i:Nat) (y:AV),ys[i]?=some y→∀ j,nn j y=false→inL j ks'=true)∧∀ S m vs,CVl S xs m vs→CVl S ys m vs
 | [],ks,k,h=>⟨[],ks,h,rfl,fun j h=>h,fun i y e=>by simp at e,fun S m vs hv=>hv⟩
 | x::l,ks,k,h=>by
  have plain:(flatC x fun y=>keepR l ks fun l' ks'=>k (y::l') ks')→∃ ys ks',k ys ks'∧ys.length=(x::l).length∧(∀ j,inL j ks=true→inL j ks'=true)∧(∀ (i:Nat) (y:AV),ys[i]?=some y→∀ j,nn j y=false→inL j ks'=true)∧∀ S m vs,CVl S (x::l) m vs→CVl S ys m vs:=by
   intro h
   obtain ⟨y,h,hn,hv⟩:=flatC_sound _ _ h
   obtain ⟨ys,ks',h1,h2,h3,h4,h5⟩:=keepR_sound l ks _ h
   refine ⟨_,_,h1,by simp [h2],h3,fun i z e j hz=>?_,fun S m vs hc=>?_⟩
   ·cases i with
    | zero=>simp at e; subst e; rw [hn] at hz; cases hz
    | succ i=>simp at e; exact h4 i z e j hz
   ·simp only [CVl] at hc ⊢
    obtain ⟨u,us,e,h1,h2⟩:=hc
    exact ⟨u,us,e,hv S m u h1,h5 S m us h2⟩
  cases x with
  | rw j s n =>
   simp only [keepR,frcN_eq] at h
   obtain ⟨ys,ks',h1,h2,h3,h4,h5⟩:=keepR_sound l _ _ h
   have sub:∀ i,inL i ks=true→inL i (cond (inL j ks) ks (j::ks))=true:=by
    intro i hi
    cases inL j ks with
    | true=>exact hi
    | false=>simp only [cond_false,inL,hi,Bool.or_true]
   have here:inL j (cond (inL j ks) ks (j::ks))=true:=by
    cases q:inL j ks with
    | true=>exact q
    | false=>simp only [cond_false,inL,nbeq_self,Bool.true_or]
   refine ⟨_,_,h1,by simp [h2],fun i hi=>h3 i (sub i hi),fun i z e j' hz=>?_,fun S m vs hc=>?_⟩
   ·cases i with
    | zero =>
     simp at e; subst e
     simp only [nn,Bool.not_eq_false'] at hz
     have:=Nat.eq_of_beq_eq_true hz
     subst this
     exact h3 _ here
    | succ i=>simp at e; exact h4 i z e j' hz
   ·simp only [CVl] at hc ⊢
    obtain ⟨u,us,e,h1,h2⟩:=hc
    exact ⟨u,us,e,h1,h5 S m us h2⟩
  | _=>exact plain (by simpa only [keepR] using h)
theorem NmIn.setEl {ks ks':List Nat} {xs:List (List AV)} (h:NmIn ks xs) (hsub:∀ j,inL j ks=true→inL j ks'=true) {j fo:Nat} {ys:List AV} (hj:j < xs.length) (hle:fo+ys.length≤(xs.getD j []).length)
  (hin:∀ (i:Nat) (y:AV),ys[i]?=some y→∀ j,nn j y=false→inL j ks'=true):NmIn ks' (setEl xs j fo ys):=by
 intro j' i' x y hx hy k hk
 rw [show Go.Proofs.YtgbbmadjdaphnaaGreatDoor.setEl xs j fo ys=xs.set j (spl (xs.getD j []) fo ys) from rfl,List.getElem?_set] at hx
 by_cases e:j=j'
 ·subst e
  rw [if_pos rfl,if_pos hj] at hx
  injection hx with hx
  subst hx
  rw [spl_get hle] at hy
  split at hy
  ·exact hin _ y hy k hk
  ·refine hsub k (h j i' (xs.getD j []) y ?_ hy k hk)
   rw [List.getD_eq_getElem?_getD,List.getElem?_eq_getElem hj]; rfl
 ·rw [if_neg e] at hx
  exact hsub k (h j' i' x y hx hy k hk)
def astore (P:Program) (t:TypeId) (x v:AV) (h:Nat→Option Blk) (K:List (Nat × Blk)→List Nat→Prop):Prop :=
 match x with
 | .prw k s q j fo=>(match h k,P.info? t with
  | some (.row e s' xs),some i=>cond (Nat.beq s s'&&Nat.beq (cellsA v).length i.size&&allOne (cellsA v)&&Nat.ble (fo+(cellsA v).length) s) (chk (q=xs.length∧j < xs.length) (stripE e (cellsA v) fun ys=>K [(k,.row e s (setEl xs j fo ys))] [k])) False
  | some (.nrow e s' ks xs),some i=>cond (Nat.beq s s'&&Nat.beq (cellsA v).length i.size&&allOne (cellsA v)&&Nat.ble (fo+(cellsA v).length) s) (chk (q=xs.length∧j < xs.length) (keepR (cellsA v) ks fun ys ks'=>K [(k,.nrow e s ks' (setEl xs j fo ys))] [k])) False
  | _,_=>False)
 | .ptr k off=>(match h k,P.info? t with
  | some (.cells cs),some i=>cond (Nat.beq (cellsA v).length i.size&&allOne (cellsA v)) (splK cs off (cellsA v) fun cs'=>K [(k,.cells cs')] [k]) False
  | _,_=>False)
 | _=>False
theorem astore_sound {P:Program} {E:Env} {nt:Nat} {o:Oper} {t:TypeId} {x v:Operand} {ev:Operand→AV} {h:Nat→Option Blk} {K:List (Nat × Blk)→List Nat→Prop} (ho:o.op=.store t x v) (hd:o.dst=none)
  (H:astore P t (ev x) (ev v) h K):∃ u rd,K u rd∧(∀ p ∈ u,p.1 ∈ rd)∧Good P E nt o ev h .undef u rd:=by
 unfold astore at H
 split at H
 ·rename_i k s Q j fo hx
  split at H
  ·rename_i e s' xs i hk hi
   obtain ⟨hb,H0⟩:=cond_F H
   simp only [Bool.and_eq_true] at hb
   obtain ⟨⟨⟨hs,hsz⟩,hone⟩,hfo⟩:=hb
   have hs:=Nat.eq_of_beq_eq_true hs
   subst hs
   have hsz:=Nat.eq_of_beq_eq_true hsz
   have hfo:=Nat.le_of_ble_eq_true hfo
   obtain ⟨⟨hQ,hj⟩,H1⟩:=chk_iff.1 H0
   obtain ⟨ys,h1,hys⟩:=stripE_sound H1
   refine ⟨_,_,h1,by simp,good_skip hd fun G kp st a w S m hG hR he hrd hf=>?_⟩
   have hv:=he x (by rw [ho]; simp [Op.operands])
   have hw:=he v (by rw [ho]; simp [Op.operands])
   rw [hx] at hv
   have hks:lk st.heap k=some (.row e s xs):=by rw [hrd k (by simp)]; exact hk
   have hheld:=hR.held k _ hks
   obtain ⟨g,q,d,cur,fr,hm,e2,hfr,e3,hxd,e4,e5,_⟩:=row_vals hheld hj
   have hv:a.eval x=.pointer (some ⟨g,j*s+fo,none⟩):=by
    have hh:=hheld
    obtain ⟨A,c,p1,_⟩:=hh
    obtain ⟨g',q1,q2⟩:=prw_ptr p1 hQ hv
    subst q1
    rw [hm] at p1
    injection p1 with p1
    injection p1 with _ p1
    injection p1 with p1 _ _
    injection p1 with p1
    injection p1 with p1
    subst p1; exact q2
   obtain ⟨c1,c2⟩:=cellsA_cv hw hone
   have c3:=c1.len
   simp only [Array.length_toList] at c3
   have c4:=hys S m _ c1
   have c5:=c4.len
   simp only [Array.length_toList] at c5
   have hin:j*s+s≤cur.size:=by rw [e3,← Nat.succ_mul]; exact Nat.mul_le_mul_right s (by omega)
   have hst:=run_storeCells_fr P g (j*s+fo) (rowTy e) fr (a.eval v).cells.toList 0 cur w e2 hfr.free (by simp; omega) c2
   simp only [Nat.add_zero] at hst
   refine ⟨w.setRow g (cur.toList.take (j*s+fo)++(a.eval v).cells.toList++cur.toList.drop (j*s+fo+(a.eval v).cells.toList.length)).toArray,S,m,?_,?_⟩
   ·have hsn:¬ (a.eval v).cells.size≠i.size:=by simp; omega
    simp only [execOp,ho,hv,Instr.storeAt,Instr.sureAddr,storeVar,sizeOf,typeInfo,Sem.run_bind,Sem.run_pure,Result.andThen_ok,run_program,hi,hsn,if_false]
    rw [hst]; rfl
   ·obtain ⟨A,c,p1,p2,p3,p6⟩:=hheld
    rw [hm] at p1
    injection p1 with p1
    injection p1 with _ p1
    injection p1 with pA pq pc
    subst pA; subst pc
    obtain ⟨g2,cur2,fr2,r1,r2,_,r3,r4,r5⟩:=p6.resolve_left (fun e=>by have:=e.2; omega)
    injection r1 with r1
    injection r1 with r1
    subst r1
    rw [e2] at r2
    injection r2 with r2
    injection r2 with r2
    subst r2
    have hlen:(setEl xs j fo ys).length=xs.length:=by simp [setEl]
    have hspl:spl cur.toList (j*s+fo) (a.eval v).cells.toList=cur.toList.take (j*s+fo)++(a.eval v).cells.toList++cur.toList.drop (j*s+fo+(a.eval v).cells.toList.length):=rfl
    refine hR.writeR hks hm (by omega) rfl rfl rfl (by simp) (fun i hi=>setRow_other w g i _ hi) e5 ⟨_,_,by rw [hlen,← pq]; exact hm,by rw [hlen]; exact p2,p3,.inr ⟨g,_,fr,rfl,setRow_heap w g cur _ (rowTy e) fr e2,?_,?_,e5,?_⟩⟩
    ·have:(cur.toList.take (j*s+fo)++(a.eval v).cells.toList++cur.toList.drop (j*s+fo+(a.eval v).cells.toList.length)).toArray.size=cur.size:=by simp; omega
     rw [this]; exact hfr
    ·simp; omega
    ·intro j' x' hx'
     have hjl:j' < xs.length:=by have:=(List.getElem?_eq_some_iff.1 hx').1; omega
     obtain ⟨o1,o2⟩:=r5 j' (xs[j']) (List.getElem?_eq_getElem hjl)
     unfold setEl at hx'
     by_cases hjj:j'=j
     ·subst hjj
      rw [List.getElem?_set_self hj] at hx'
      injection hx' with hx'
      subst hx'
      have eg:xs.getD j' []=xs[j']:=by rw [List.getD_eq_getElem?_getD,List.getElem?_eq_getElem hjl]; rfl
      refine ⟨by rw [spl_len (by rw [e4]; omega)]; exact e4,fun i' y hy=>?_⟩
      rw [spl_get (by rw [e4]; omega)] at hy
      have hil:i' < s:=by
       by_cases hq:fo≤i'∧i' < fo+ys.length
       ·omega
       ·rw [if_neg hq] at hy; have:=(List.getElem?_eq_some_iff.1 hy).1; omega
      have cell:∀ u,(spl cur.toList (j'*s+fo) (a.eval v).cells.toList)[j'*s+i']?=some u→(cur.toList.take (j'*s+fo)++(a.eval v).cells.toList++cur.toList.drop (j'*s+fo+(a.eval v).cells.toList.length)).toArray[j'*s+i']?=some u:=by
       intro u hu
       rw [hspl] at hu
       simpa using hu
      by_cases hq:fo≤i'∧i' < fo+ys.length
      ·rw [if_pos hq] at hy
       obtain ⟨u,hu,hcu⟩:=c4.get hy
       refine ⟨u,cell u ?_,c2 u (List.mem_of_getElem? hu),hcu⟩
       rw [spl_get (by simp; omega),if_pos (by simp; omega),show j'*s+i' - (j'*s+fo)=i' - fo by omega]
       exact hu
      ·rw [if_neg hq] at hy
       rw [eg] at hy
       obtain ⟨u,hu,huo,hcu⟩:=o2 i' y hy
       refine ⟨u,cell u ?_,huo,hcu⟩
       rw [spl_get (by simp; omega),if_neg (by simp; omega)]
       simpa using hu
     ·rw [List.getElem?_set_ne (fun e=>hjj e.symm),List.getElem?_eq_getElem hjl] at hx'
      injection hx' with hx'
      subst hx'
      refine ⟨o1,fun i' y hy=>?_⟩
      obtain ⟨u,hu,huo,hcu⟩:=o2 i' y hy
      refine ⟨u,?_,huo,hcu⟩
      have hi':i' < s:=by have:=(List.getElem?_eq_some_iff.1 hy).1; omega
      have hfar:¬ (j*s+fo≤j'*s+i'∧j'*s+i' < j*s+fo+(a.eval v).cells.toList.length):=by
       rintro ⟨q1,q2⟩
       simp only [Array.length_toList] at q2
       rcases Nat.lt_or_ge j' j with hlt | hge
       ·have:(j'+1)*s≤j*s:=Nat.mul_le_mul_right s hlt
        rw [Nat.succ_mul] at this; omega
       ·have:(j+1)*s≤j'*s:=Nat.mul_le_mul_right s (by omega)
        rw [Nat.succ_mul] at this; omega
      have:=spl_get (cs:=cur.toList) (ys:=(a.eval v).cells.toList) (off:=j*s+fo) (by simp; omega) (j'*s+i')
      rw [if_neg hfar,hspl] at this
      have h9:cur.toList[j'*s+i']?=some u:=by simpa using hu
      rw [h9] at this
      simpa using this
  ·rename_i e s' ks xs i hk hi
   obtain ⟨hb,H0⟩:=cond_F H
   simp only [Bool.and_eq_true] at hb
   obtain ⟨⟨⟨hs,hsz⟩,hone⟩,hfo⟩:=hb
   have hs:=Nat.eq_of_beq_eq_true hs
   subst hs
   have hsz:=Nat.eq_of_beq_eq_true hsz
   have hfo:=Nat.le_of_ble_eq_true hfo
   obtain ⟨⟨hQ,hj⟩,H1⟩:=chk_iff.1 H0
   obtain ⟨ys,ks',h1,hyl,hsub,hin',hys⟩:=keepR_sound _ _ _ H1
   refine ⟨_,_,h1,by simp,good_skip hd fun G kp st a w S m hG hR he hrd hf=>?_⟩
   have hv:=he x (by rw [ho]; simp [Op.operands])
   have hw:=he v (by rw [ho]; simp [Op.operands])
   rw [hx] at hv
   have hks:lk st.heap k=some (.nrow e s ks xs):=by rw [hrd k (by simp)]; exact hk
   have hheld0:=hR.held k _ hks
   have hheld:=hheld0.open
   obtain ⟨g,q,d,cur,fr,hm,e2,hfr,e3,hxd,e4,e5,_⟩:=row_vals hheld hj
   have hv:a.eval x=.pointer (some ⟨g,j*s+fo,none⟩):=by
    have hh:=hheld
    obtain ⟨A,c,p1,_⟩:=hh
    obtain ⟨g',q1,q2⟩:=prw_ptr p1 hQ hv
    subst q1
    rw [hm] at p1
    injection p1 with p1
    injection p1 with _ p1
    injection p1 with p1 _ _
    injection p1 with p1
    injection p1 with p1
    subst p1; exact q2
   obtain ⟨c1,c2⟩:=cellsA_cv hw hone
   have c3:=c1.len
   simp only [Array.length_toList] at c3
   have c4:CVl S ys (rowNm (e+2000000) m) (a.eval v).cells.toList:=by rw [rowNm_hi (by omega)]; exact hys S m _ c1
   have c5:=c4.len
   simp only [Array.length_toList] at c5
   have hin:j*s+s≤cur.size:=by rw [e3,← Nat.succ_mul]; exact Nat.mul_le_mul_right s (by omega)
   have hst:=run_storeCells_fr P g (j*s+fo) (rowTy (e+2000000)) fr (a.eval v).cells.toList 0 cur w e2 hfr.free (by simp; omega) c2
   simp only [Nat.add_zero] at hst
   refine ⟨w.setRow g (cur.toList.take (j*s+fo)++(a.eval v).cells.toList++cur.toList.drop (j*s+fo+(a.eval v).cells.toList.length)).toArray,S,m,?_,?_⟩
   ·have hsn:¬ (a.eval v).cells.size≠i.size:=by simp; omega
    simp only [execOp,ho,hv,Instr.storeAt,Instr.sureAddr,storeVar,sizeOf,typeInfo,Sem.run_bind,Sem.run_pure,Result.andThen_ok,run_program,hi,hsn,if_false]
    rw [hst]; rfl
   ·obtain ⟨A,c,p1,p2,p3,p6⟩:=hheld
    rw [hm] at p1
    injection p1 with p1
    injection p1 with _ p1
    injection p1 with pA pq pc
    subst pA; subst pc
    obtain ⟨g2,cur2,fr2,r1,r2,_,r3,r4,r5⟩:=p6.resolve_left (fun e=>by have:=e.2; omega)
    injection r1 with r1
    injection r1 with r1
    subst r1
    rw [e2] at r2
    injection r2 with r2
    injection r2 with r2
    subst r2
    have hlen:(setEl xs j fo ys).length=xs.length:=by simp [setEl]
    have hspl:spl cur.toList (j*s+fo) (a.eval v).cells.toList=cur.toList.take (j*s+fo)++(a.eval v).cells.toList++cur.toList.drop (j*s+fo+(a.eval v).cells.toList.length):=rfl
    refine hR.writeR hks hm (by omega) rfl rfl rfl (by simp) (fun i hi=>setRow_other w g i _ hi) e5 ⟨⟨_,_,by rw [hlen,← pq]; exact hm,by rw [hlen]; exact p2,p3,.inr ⟨g,_,fr,rfl,setRow_heap w g cur _ (rowTy (e+2000000)) fr e2,?_,?_,e5,?_⟩⟩,?_⟩
    ·have:(cur.toList.take (j*s+fo)++(a.eval v).cells.toList++cur.toList.drop (j*s+fo+(a.eval v).cells.toList.length)).toArray.size=cur.size:=by simp; omega
     rw [this]; exact hfr
    ·simp; omega
    ·intro j' x' hx'
     have hjl:j' < xs.length:=by have:=(List.getElem?_eq_some_iff.1 hx').1; omega
     obtain ⟨o1,o2⟩:=r5 j' (xs[j']) (List.getElem?_eq_getElem hjl)
     unfold setEl at hx'
     by_cases hjj:j'=j
     ·subst hjj
      rw [List.getElem?_set_self hj] at hx'
      injection hx' with hx'
      subst hx'
      have eg:xs.getD j' []=xs[j']:=by rw [List.getD_eq_getElem?_getD,List.getElem?_eq_getElem hjl]; rfl
      refine ⟨by rw [spl_len (by rw [e4]; omega)]; exact e4,fun i' y hy=>?_⟩
      rw [spl_get (by rw [e4]; omega)] at hy
      have hil:i' < s:=by
       by_cases hq:fo≤i'∧i' < fo+ys.length
       ·omega
       ·rw [if_neg hq] at hy; have:=(List.getElem?_eq_some_iff.1 hy).1; omega
      have cell:∀ u,(spl cur.toList (j'*s+fo) (a.eval v).cells.toList)[j'*s+i']?=some u→(cur.toList.take (j'*s+fo)++(a.eval v).cells.toList++cur.toList.drop (j'*s+fo+(a.eval v).cells.toList.length)).toArray[j'*s+i']?=some u:=by
       intro u hu
       rw [hspl] at hu
       simpa using hu
      by_cases hq:fo≤i'∧i' < fo+ys.length
      ·rw [if_pos hq] at hy
       obtain ⟨u,hu,hcu⟩:=c4.get hy
       refine ⟨u,cell u ?_,c2 u (List.mem_of_getElem? hu),hcu⟩
       rw [spl_get (by simp; omega),if_pos (by simp; omega),show j'*s+i' - (j'*s+fo)=i' - fo by omega]
       exact hu
      ·rw [if_neg hq] at hy
       rw [eg] at hy
       obtain ⟨u,hu,huo,hcu⟩:=o2 i' y hy
       refine ⟨u,cell u ?_,huo,hcu⟩
       rw [spl_get (by simp; omega),if_neg (by simp; omega)]
       simpa using hu
     ·rw [List.getElem?_set_ne (fun e=>hjj e.symm),List.getElem?_eq_getElem hjl] at hx'
      injection hx' with hx'
      subst hx'
      refine ⟨o1,fun i' y hy=>?_⟩
      obtain ⟨u,hu,huo,hcu⟩:=o2 i' y hy
      refine ⟨u,?_,huo,hcu⟩
      have hi':i' < s:=by have:=(List.getElem?_eq_some_iff.1 hy).1; omega
      have hfar:¬ (j*s+fo≤j'*s+i'∧j'*s+i' < j*s+fo+(a.eval v).cells.toList.length):=by
       rintro ⟨q1,q2⟩
       simp only [Array.length_toList] at q2
       rcases Nat.lt_or_ge j' j with hlt | hge
       ·have:(j'+1)*s≤j*s:=Nat.mul_le_mul_right s hlt
        rw [Nat.succ_mul] at this; omega
       ·have:(j+1)*s≤j'*s:=Nat.mul_le_mul_right s (by omega)
        rw [Nat.succ_mul] at this; omega
      have:=spl_get (cs:=cur.toList) (ys:=(a.eval v).cells.toList) (off:=j*s+fo) (by simp; omega) (j'*s+i')
      rw [if_neg hfar,hspl] at this
      have h9:cur.toList[j'*s+i']?=some u:=by simpa using hu
      rw [h9] at this
      simpa using this
    ·exact hheld0.2.setEl hsub hj (by rw [e4]; omega) hin'
  ·exact H.elim
 ·rename_i k off hx
  split at H
  ·rename_i cs i hk hi
   obtain ⟨hb,H'⟩:=cond_F H
   simp only [Bool.and_eq_true] at hb
   have hsz:=Nat.eq_of_beq_eq_true hb.1
   obtain ⟨h1,h2⟩:=splK_sound H'
   refine ⟨_,_,h1,by simp,good_skip hd fun G kp st a w S m hG hR he hrd hf=>?_⟩
   have hv:=he x (by rw [ho]; simp [Op.operands])
   have hw:=he v (by rw [ho]; simp [Op.operands])
   rw [hx] at hv
   simp only [CV] at hv
   obtain ⟨g,hm,hv⟩:=hv
   have hks:lk st.heap k=some (.cells cs):=by rw [hrd k (by simp)]; exact hk
   obtain ⟨g',arr,ty,e1,e2,e3,e4⟩:=hR.held k _ hks
   rw [hm] at e1
   injection e1 with e1
   injection e1 with e1
   injection e1 with e1
   injection e1 with e1
   subst e1
   obtain ⟨c1,c2⟩:=cellsA_cv hw hb.2
   have c3:=c1.len
   have a3:=e3.len
   simp only [Array.length_toList] at c3 a3
   have hst:=run_storeCells_at P g off ty (a.eval v).cells.toList 0 arr w e2 (by simp; omega) c2
   simp only [Nat.add_zero] at hst
   refine ⟨w.setRow g (arr.toList.take off++(a.eval v).cells.toList++arr.toList.drop (off+(a.eval v).cells.toList.length)).toArray,S,m,?_,?_⟩
   ·have hs:¬ (a.eval v).cells.size≠i.size:=by simp; omega
    simp only [execOp,ho,hv,Instr.storeAt,Instr.sureAddr,storeVar,sizeOf,typeInfo,Sem.run_bind,Sem.run_pure,Result.andThen_ok,run_program,hi,hs,if_false]
    rw [hst]; rfl
   ·refine hR.write hks hm rfl rfl rfl (by simp) (fun j hj=>setRow_other w g j _ hj) e4 ⟨g,_,ty,hm,setRow_heap w g arr _ ty (0,0) e2,?_,e4⟩
    have:=e3.spl c1 h2
    simpa [spl] using this
  ·exact H.elim
 ·exact H.elim
def aalloc (P:Program) (nm:Nat) (t:TypeId) (K:AV→List (Nat × Blk)→List Nat→Prop):Prop :=
 zeroA P t fun zs=>cond (nnl nm zs) (K (.ptr nm 0) [(nm,.cells zs)] []) False
theorem aalloc_sound {P:Program} {E:Env} {nt nm:Nat} {o:Oper} {t:TypeId} {ev:Operand→AV} {h:Nat→Option Blk} {K:AV→List (Nat × Blk)→List Nat→Prop} (ho:o.op=.alloc t) (hd:dstOk nt o.dst=true)
  (H:aalloc P nm t K):∃ r b,K r [(nm,b)] []∧Good P E nt o ev h r [(nm,b)] []:=by
 obtain ⟨i,z,hi,hz,H,hr⟩:=zeroA_sound H
 obtain ⟨hn,H'⟩:=cond_F H
 refine ⟨_,_,H',good_value hd fun G kp st a w S m hG hR he hrd hf=>?_⟩
 refine ⟨.pointer (some ⟨w.heap.size,0,none⟩),w.alloc (.cells z.cells t),S,m.set nm (.pointer (some ⟨w.heap.size,0,none⟩)),?_,?_,?_⟩
 ·simp [execOp,ho,Instr.alloc,hr,newVar,newRow]
 ·exact hR.alloc (hf (nm,.cells (ofVs z.cells.toList)) (by simp) (by simp)) t (ofVs_cv S m _) hn
 ·simp only [CV]
  exact ⟨w.heap.size,Nm.set_same _ _ _,rfl⟩
def abox (nm:Nat) (x:AV) (K:AV→List (Nat × Blk)→List Nat→Prop):Prop :=
 cond (allOne (cellsA x)&&nnl nm (cellsA x)) (K (.ptr nm 0) [(nm,.cells (cellsA x))] []) False
theorem abox_sound {P:Program} {E:Env} {nt nm:Nat} {o:Oper} {t:TypeId} {x:Operand} {ev:Operand→AV} {h:Nat→Option Blk} {K:AV→List (Nat × Blk)→List Nat→Prop} (ho:o.op=.box t x) (hd:dstOk nt o.dst=true)
  (H:abox nm (ev x) K):∃ r b,K r [(nm,b)] []∧Good P E nt o ev h r [(nm,b)] []:=by
 obtain ⟨hb,H'⟩:=cond_F H
 simp only [Bool.and_eq_true] at hb
 refine ⟨_,_,H',good_value hd fun G kp st a w S m hG hR he hrd hf=>?_⟩
 have hv:=he x (by rw [ho]; simp [Op.operands])
 obtain ⟨c1,c2⟩:=cellsA_cv hv hb.1
 refine ⟨.pointer (some ⟨w.heap.size,0,none⟩),w.alloc (.cells (a.eval x).cells t),S,m.set nm (.pointer (some ⟨w.heap.size,0,none⟩)),?_,?_,?_⟩
 ·simp [execOp,ho,Instr.box,newVar,newRow]
 ·exact hR.alloc (hf (nm,.cells (cellsA (ev x))) (by simp) (by simp)) t c1 hb.2
 ·simp only [CV]
  exact ⟨w.heap.size,Nm.set_same _ _ _,rfl⟩
end Go.Proofs.YtgbbmadjdaphnaaGreatDoor
