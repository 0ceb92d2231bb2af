/- The claim's texts, part U1: contracts of the functions that the statement reaches, and what they say of the data. -/
import Derived.WalkKit
import Derived.WalkSmall
import Derived.Lib.Hide
import Derived.Laws.AppendOwnNone
import Derived.Laws.OwnMore
import Derived.Maps.AppendAt
import Derived.Deep.DeepAppendRoom
import Derived.Deep.QuietTactic
import Derived.BigQuiet
import Derived.Shelf.Spec.SlicesGrow
import Derived.Shelf.Strings.Builder1
import Derived.Shelf.Strings.Builder2
import Derived.Shelf.Strings.OnBuilder
import Derived.Shelf.Strings.Trim
import Derived.Shelf.Small.Utf8
import Derived.Shelf.Small.Bits
import Derived.Shelf.Small.Strs
import Derived.Shelf.Small.Wraps
import Derived.Shelf.Strings.BuilderF
import Derived.Shelf.Strings.BuilderK
import Derived.Shelf.Utf8.RuneCount
import Derived.Shelf.Strings.Builder2Cap
import Derived.Shelf.Strconv.Atoi
import Derived.Shelf.Strconv.Itoa0
import Derived.Shelf.Strconv.Itoa1
import Derived.Shelf.LaysM
import Derived.Shelf.Strconv.Itoa2
import Derived.Shelf.Strconv.Itoa3
import Derived.Shelf.Strconv.AtoiErrFast
import Derived.Shelf.Strconv.ParseIntEmpty
import Derived.Shelf.Strconv.AtoiFail
import Derived.Shelf.Strconv.Clone
import Derived.Shelf.Strconv.SyntaxError
import Derived.Shelf.LaysC
import Derived.Shelf.Strconv.ToError
import Derived.Shelf.Strconv.AtoiErr
import Derived.Shelf.Strconv.ErrVar
import Derived.Shelf.Strconv.Lower
import Derived.Shelf.Strconv.ParseUint10
import Derived.Shelf.Strconv.ParseUint10Empty
import Derived.Shelf.Strconv.ParseUint10Any
import Derived.Shelf.Strconv.ParseInt10
import Derived.Shelf.Strconv.AtoiLong
import Derived.Shelf.Strconv.AtoiInnerAll
import Derived.Shelf.Strconv.RangeError
import Derived.Shelf.Strconv.ToErrorRange
import Derived.Shelf.Strconv.AtoiAll
import Derived.Shelf.Strconv.ErrVarAll
import Derived.Shelf.Strconv.ParseUintEmpty
import Derived.Shelf.Strconv.ParseUint10b64
import Derived.Shelf.Strconv.ParseUint10b32
import Derived.Shelf.Strconv.ParseUint10b16
import Derived.Shelf.Strconv.ParseUint10b8
import Derived.Shelf.Strconv.ParseUint10At
import Derived.Shelf.Strconv.ParseInt10At64
import Derived.Shelf.Strconv.ParseInt10At32
import Derived.Shelf.Strconv.ParseInt10At16
import Derived.Shelf.Strconv.ParseInt10At8
import Derived.Shelf.Strconv.ParseInt10All
import Derived.Shelf.Strings.Search1
import Derived.Shelf.Strings.Search2
import Derived.Shelf.Strings.Search3
import Derived.Shelf.Strings.Cut
import Derived.Shelf.Strings.Count
import Derived.Shelf.Strings.Shaped
import Derived.Shelf.Sort.Plain
import Derived.Shelf.Strings.Prefix
import Derived.Shelf.Strings.Split
import Derived.Shelf.Strings.SplitShaped
import Derived.Shelf.Unicode.Decode
import Derived.Shelf.Strings.Runes
import Derived.Shelf.Strings.RuneCount
import Derived.Shelf.Strings.AsciiSet
import Derived.Shelf.Strings.Explode
import Derived.Shelf.Bits.Mul64
import Derived.Shelf.Unicode.DecodeSlow
import Derived.Shelf.Unicode.DecodeAny
import Derived.Shelf.Unicode.DecodeLast
import Derived.Shelf.Strings.BuilderCap
import Derived.Shelf.Slices.Turned
import Derived.Shelf.Slices.CompactS
import Derived.Ground.Names2Prog
import Derived.Shelf.Slices.SearchI
import Derived.Shelf.Slices.Cells
import Derived.Shelf.Slices.In.SortNone
import Derived.Test.YtcjfagnlmlkedaaGreatDoorProg
import Derived.WalkLawsBesides
import Derived.WalkSpells
import Derived.Handy
import Derived.Deep.LoopGhost
import Derived.Deep.RegionHeld3
import Derived.Deep.DrawnRows
import Derived.Lib.AtoiTie
import Derived.Lib.AppendIntMem
import Derived.Lib.AtoiErrMem
import Derived.Shelf.Strings.SlTrimAscii
import Derived.Shelf.Abstract
import Derived.Deep.RegionLaw
import Derived.Laws.StructEq
import Derived.Maps.Own
import Derived.Maps.Views
import Derived.StringKeys
import Derived.Deep.RegionHeldLaw
import Derived.Sort.KeysCollected
import Derived.Maps.RangeWalk
import Derived.Sort.OwnSorted
import Derived.Deep.DeepCutAuto
import Derived.Lib.SliceRun
import Derived.BigRegion
import Derived.WideMake
import Derived.Lib.ItoaLen
import Derived.RangeFuncNested
import Derived.RangeFuncBound
import Derived.RangeFuncCalls
import Derived.RangeFuncLeaves
import Derived.RangeFuncBox
import Derived.Shelf.RegionOpen
import Derived.OwnWalkIn
import Derived.TacticsInMore
import Derived.LoopNIn
import Derived.LoopIn
import Derived.ArgAppend
import Derived.Deep.Upon
import Derived.Deep.CutBlock
import Derived.StillTailTactics
import Derived.Deep.RegionWith
import Derived.Test.YtcjfagnlmlkedaaGreatDoorRows
import Derived.Deep.Slices
import Derived.Deep.Fields
import Derived.ChangeSame
import Derived.ProofKit
import Derived.OpenShut
import Derived.Test.YtcjfagnlmlkedaaGreatDoorCards
import Derived.Test.YtcjfagnlmlkedaaGreatDoorTie
import Derived.Deep.DeepHandedRow
import Derived.Deep.DeepWitnessRowRef
import Derived.Lib.LaidTab
import Derived.JoinedCond
import Derived.SevenTiedAt
set_option maxRecDepth 100000
set_option maxHeartbeats 8000000
set_option linter.all false
namespace Go.Proofs.YtcjfagnlmlkedaaGreatDoor
theorem hJ {p : Prop} (h : p) : RowKit.Hid p := h
theorem zR (n : Nat) : n ≤ n := Nat.le_refl n
theorem zB (B : Nat) (w : World) : RowKit.Below B w w := RowKit.Below.refl B w
theorem zA (a b : Bool) : ((a && b) = true) = (a = true ∧ b = true) := Bool.and_eq_true a b
theorem zG {α : Type _} {l : List α} {i : Nat} (h : i < l.length) : l[i]? = some l[i] := List.getElem?_eq_getElem h
theorem zS {a b : ByteArray} : (a ++ b).size = a.size + b.size := ByteArray.size_append
theorem zM {α : Type _} {a : α} {l : List α} : a ∈ a :: l := List.mem_cons_self
theorem zO {α : Type _} (y : α) {a : α} {l : List α} : a ∈ l → a ∈ y :: l := List.mem_cons_of_mem y
theorem zD {α : Type _} {l : List α} {i : Nat} {a : α} : l.getD i a = l[i]?.getD a := List.getD_eq_getElem?_getD
theorem zT {α : Type _} {i : Nat} {l : List α} : l.length ≤ i → List.take i l = l := List.take_of_length_le
theorem zL {α : Type _} {l : List α} : l.length = 0 → l = [] := List.eq_nil_of_length_eq_zero
theorem zP {α : Type _} {a b : List α} : (a ++ b).length = a.length + b.length := List.length_append
theorem zN {α : Type _} {i : Nat} {l : List α} : (List.take i l).length = min i l.length := List.length_take
theorem zE {n m k : Nat} : n ≤ m → m ≤ k → n ≤ k := Nat.le_trans
theorem zF (n m : Nat) : n < m ∨ n ≥ m := Nat.lt_or_ge n m
open Go.Proofs.Tryz
open Go.RowKit
abbrev Blk:=Nat→Prop
def All:Blk:=fun _=>True
theorem kB5 {w:World} {a:Addr} {v:Value} (h:w.cell? a=some v):a.block<w.heap.size:=by
 rcases zF a.block w.heap.size with g | g
 · exact g
 · simp [World.cell?,Array.getElem?_eq_none g] at h
theorem add_mk (b off j:Nat):(⟨b,off,none⟩:Addr).add j=⟨b,off+j,none⟩:=by
 unfold Addr.add
 split <;> simp_all
theorem kCE {w w':World} {a:Addr} {v:Value} (h:w.cell? a=some v) (hb:a.block<w.heap.size→w'.heap[a.block]? =w.heap[a.block]?):w'.cell? a=some v:=by
 rw [World.cell?_of_block (w:=w) (hb (kB5 h))];exact h
structure Rep (α :Type) where
 size:Nat
 rd:Blk→World→List Value→ α →Prop
 pos:0<size
 len:∀ {S w cs x},rd S w cs x→cs.length=size
 one:∀ {S w cs x},rd S w cs x→∀ u ∈ cs,u.oneCell'=true
 frame:∀ {S w w' cs x},rd S w cs x→(∀ k,S k→k<w.heap.size→w'.heap[k]? =w.heap[k]?)→rd S w' cs x
 mono:∀ {S S' w cs x},rd S w cs x→(∀ k,S k→k<w.heap.size→S' k)→rd S' w cs x
structure Sl {α :Type} (R:Rep α) (S:Blk) (w:World) (a:Option Addr) (n c:Nat) (l:List α):Prop where
 len:l.length=n
 cap:n≤c
 max:c≤maxLen
 nil:a=none→c=0
 at_:∀ (i:Nat) (x: α),l[i]? =some x→∃ b off cs,a=some ⟨b,off,none⟩∧S b∧R.rd S w cs x∧∀ j u,cs[j]? =some u→w.cell? ⟨b,off+(i * R.size+j),none⟩=some u
theorem Sl.frame {α :Type} {R:Rep α} {S:Blk} {w w':World} {a:Option Addr} {n c:Nat} {l:List α} (h:Sl R S w a n c l) (hf:∀ k,S k→k<w.heap.size→w'.heap[k]? =w.heap[k]?):Sl R S w' a n c l :=
 ⟨h.len,h.cap,h.max,h.nil,fun i x hx=>let ⟨b,off,cs,ha,hs,hr,hc⟩:=h.at_ i x hx;⟨b,off,cs,ha,hs,R.frame hr hf,fun j u hu=>kCE (hc j u hu) (hf b hs)⟩⟩
theorem Sl.mono {α :Type} {R:Rep α} {S S':Blk} {w:World} {a:Option Addr} {n c:Nat} {l:List α} (h:Sl R S w a n c l) (hs:∀ k,S k→k<w.heap.size→S' k):Sl R S' w a n c l :=
 ⟨h.len,h.cap,h.max,h.nil,fun i x hx=>let ⟨b,off,cs,ha,hS,hr,hc⟩:=h.at_ i x hx
   ⟨b,off,cs,ha,hs b hS (by
     have hl:=R.len hr;have hp:=R.pos;have h0:0<cs.length:=by omega
     exact kB5 (hc 0 cs[0] (by simp [zG h0]))),R.mono hr hs,hc⟩⟩
theorem Sl.all {α :Type} {R:Rep α} {S:Blk} {w:World} {a:Option Addr} {n c:Nat} {l:List α} (h:Sl R S w a n c l):Sl R All w a n c l:=h.mono fun _ _ _=>trivial
theorem Sl.below {α :Type} {R:Rep α} {S:Blk} {w w':World} {a:Option Addr} {n c:Nat} {l:List α} (h:Sl R S w a n c l) (hb:Below w.heap.size w w'):Sl R S w' a n c l :=
 h.frame fun k _ hk=>hb.block k hk
theorem Rep.below {α :Type} (R:Rep α) {S:Blk} {w w':World} {cs:List Value} {x: α} (h:R.rd S w cs x) (hb:Below w.heap.size w w'):R.rd S w' cs x:=R.frame h fun k _ hk=>hb.block k hk
theorem Sl.empty {α :Type} (R:Rep α) (S:Blk) (w:World):Sl R S w none 0 0 []:=⟨rfl,zR _,Nat.zero_le _,fun _=>rfl,fun i x h=>by simp at h⟩
theorem Sl.form {α :Type} {R:Rep α} {S:Blk} {w:World} {a:Option Addr} {n c:Nat} {l:List α} (h:Sl R S w a n c l) (k:Nat) (hk:k<n):∃ b off,a=some ⟨b,off,none⟩∧b<w.heap.size∧S b:=by
 have hkl:k<l.length:=by rw [h.len];exact hk
 obtain ⟨b,off,cs,ha,hs,hr,hc⟩:=h.at_ k l[k] (zG hkl);have hl:=R.len hr;have hp:=R.pos;have h0:0<cs.length:=by omega
 exact ⟨b,off,ha,kB5 (hc 0 cs[0] (by simp [zG h0])),hs⟩
theorem Sl.cells {α :Type} {R:Rep α} {S:Blk} {w:World} {b off n c:Nat} {l:List α} (h:Sl R S w (some ⟨b,off,none⟩) n c l) (k:Nat) (x: α) (hk:l[k]? =some x):∃ cs,R.rd S w cs x∧∀ j u,cs[j]? =some u→w.cell? ⟨b,off+(k * R.size+j),none⟩=some u:=by
 obtain ⟨b',off',cs,ha,hs,hr,hc⟩:=h.at_ k x hk;cases ha;exact ⟨cs,hr,hc⟩
theorem Sl.take {α :Type} {R:Rep α} {S:Blk} {w:World} {a:Option Addr} {n c:Nat} {l:List α} (h:Sl R S w a n c l) (m:Nat) (hm:m≤n):Sl R S w a m c (l.take m):=by
 refine ⟨by rw [zN,h.len];omega,zE hm h.cap,h.max,h.nil,fun i x hx=>?_⟩;rw [List.getElem?_take] at hx
 split at hx
 · exact h.at_ i x hx
 · cases hx
theorem Sl.drop {α :Type} {R:Rep α} {S:Blk} {w:World} {b off n c:Nat} {l:List α} (h:Sl R S w (some ⟨b,off,none⟩) n c l) (m:Nat) (hm:m≤n):Sl R S w (some ⟨b,off+m * R.size,none⟩) (n - m) (c - m) (l.drop m):=by
 refine ⟨by rw [List.length_drop,h.len],by have:=h.cap;omega,by have:=h.max;omega,(by intro h;cases h),fun i x hx=>?_⟩;rw [List.getElem?_drop] at hx;obtain ⟨b',off',cs,ha,hs,hr,hc⟩:=h.at_ (m+i) x hx;cases ha;refine ⟨b,off+m * R.size,cs,rfl,hs,hr,fun j u hu=>?_⟩;have:=hc j u hu;rw [Nat.add_mul] at this
 rwa [show off+m * R.size+(i * R.size+j)=off+(m * R.size+i * R.size+j) by omega]
structure Own {α :Type} (R:Rep α) (E:TypeId) (S:Blk) (w:World) (base:Nat) (v:Value) (l:List α):Prop where
 row:∃ css:List (List Value),css.length=l.length∧w.ownsRow base E R.size v l.length css.flatten∧∀ (i:Nat) (x: α),l[i]? =some x→∃ cs,css[i]? =some cs∧R.rd (fun k=>S k∧v.ownBlock≠some k) w cs x
theorem Own.nil {α :Type} (R:Rep α) (E:TypeId) (S:Blk) (w:World) (base:Nat):Own R E S w base (.slice none 0 0) [] :=
 ⟨⟨[],rfl,⟨by simp,.inl ⟨rfl,rfl⟩⟩,fun i x h=>by simp at h⟩⟩
theorem kC0 {w:World} {base:Nat} {e:TypeId} {size:Nat} {v:Value} {n:Nat} {xs:List Value} (h:w.ownsRow base e size v n xs):∃ a c,v= .slice a n c∧n≤c∧c≤maxLen∧(a=none→c=0)∧(∀ b,a=some b→∃ g,b=⟨g,0,none⟩∧base≤g∧g<w.heap.size):=by
 obtain ⟨_,⟨rfl,rfl⟩ | ⟨g,cap,cur,rfl,hg,hh,hn,hm,_⟩⟩:=h
 · exact ⟨none,0,rfl,zR _,Nat.zero_le _,fun _=>rfl,fun b hb=>by cases hb⟩
 · refine ⟨_,_,rfl,hn,hm,by (intro h;cases h),fun b hb=>?_⟩
   cases hb;refine ⟨g,rfl,hg,?_⟩;rcases zF g w.heap.size with q | q
   · exact q
   · rw [Array.getElem?_eq_none q] at hh;cases hh
theorem kFS {css:List (List Value)} {m:Nat} (hm:∀ cs ∈ css,cs.length=m):∀ (i:Nat) (cs:List Value) (j:Nat) (u:Value),css[i]? =some cs→cs[j]? =some u→css.flatten[i * m+j]? =some u:=by
 induction css with
 | nil=>intro i cs j u h;simp at h
 | cons c css ih =>
   intro i cs j u h hu;have hc:=hm c (zM ..);cases i with
   | zero =>
     simp at h;subst h
     have hj:j<c.length:=by
      rcases zF j c.length with q | q
      · exact q
      · rw [List.getElem?_eq_none q] at hu;cases hu
     rw [List.flatten_cons,Nat.zero_mul,Nat.zero_add,List.getElem?_append_left hj];exact hu
   | succ i =>
     rw [List.flatten_cons,List.getElem?_append_right (by rw [hc,Nat.succ_mul];omega),hc,show (i+1) * m+j - m=i * m+j by rw [Nat.succ_mul];omega];exact ih (fun cs hcs=>hm cs (zO _ hcs)) i cs j u (by simpa using h) hu
theorem Own.sl {α :Type} {R:Rep α} {E:TypeId} {S:Blk} {w:World} {base:Nat} {v:Value} {l:List α} (h:Own R E S w base v l):∃ a c,v= .slice a l.length c∧Sl R (fun k=>S k∨base≤k) w a l.length c l:=by
 obtain ⟨css,hl,hrow,hel⟩:=h.row;obtain ⟨a,c,rfl,h1,h2,h3,h4⟩:=kC0 hrow;refine ⟨a,c,rfl,⟨rfl,h1,h2,h3,fun i x hx=>?_⟩⟩;obtain ⟨cs,hcs,hr⟩:=hel i x hx;obtain ⟨_,⟨hv,h0⟩ | ⟨g,cap,cur,hv,hg,hh,hn,hm,hs,ht⟩⟩:=hrow
 · obtain rfl:l=[]:=zL h0
   simp at hx
 · rw [Value.slice.injEq] at hv
   obtain ⟨rfl,-,rfl⟩:=hv;refine ⟨g,0,cs,rfl,.inr hg,R.mono hr (fun k hk _=>.inl hk.1),fun j u hu=>?_⟩
   have hall:∀ cs ∈ css,cs.length=R.size:=fun cs' hm'=>by
    obtain ⟨i',hi',rfl⟩:=List.getElem_of_mem hm';obtain ⟨cs2,e2,r2⟩:=hel i' (l[i']'(by omega)) (zG (by omega));rw [zG hi'] at e2;cases e2;exact R.len r2
   have hu2:=kFS hall i cs j u hcs hu
   have hlt:i * R.size+j<l.length * R.size:=by
    have hfl:css.flatten.length=l.length * R.size:=by
     have hcl:cur.toList.length=c * R.size:=by rw [← hs];simp
     have:l.length * R.size≤c * R.size:=Nat.mul_le_mul_right _ h1;rw [← ht,zN,hcl];omega
    rw [← hfl];rcases zF (i * R.size+j) css.flatten.length with q | q
    · exact q
    · rw [List.getElem?_eq_none q] at hu2;cases hu2
   rw [Nat.zero_add]
   have:cur.toList[i * R.size+j]? =some u:=by
    rw [← ht,List.getElem?_take,if_pos hlt] at hu2;exact hu2
   simp [World.cell?,hh];rw [← Array.getElem?_toList];exact this
structure ElemOf (P:Program) (T E:TypeId) (size bytes:Nat):Prop where
 slice:P.underlying T=some (.slice E)
 info:(P.info? E).map (fun i=>(i.zero.map (fun z=>z.cells.size),i.size,i.bytes))=some (some size,size,bytes)
theorem ElemOf.parts {P:Program} {T E:TypeId} {size bytes:Nat} (h:ElemOf P T E size bytes):∃ i z,P.info? E=some i∧i.zero=some z∧i.size=size∧i.bytes=bytes∧z.cells.size=size:=by
 have h1:=h.info;cases hi:P.info? E with
 | none=>rw [hi] at h1;cases h1
 | some i =>
   rw [hi] at h1;simp only [Option.map_some,Option.some.injEq,Prod.mk.injEq] at h1;obtain ⟨h2,h3,h4⟩:=h1;cases hz:i.zero with
   | none=>rw [hz] at h2;cases h2
   | some z =>
     rw [hz] at h2;simp only [Option.map_some,Option.some.injEq] at h2;exact ⟨i,z,rfl,hz,h3,h4,h2⟩
theorem kBD {css:List (List Value)} {m:Nat} (hm:∀ cs ∈ css,cs.length=m):css.flatten.length=css.length * m:=by
 induction css with
 | nil=>simp
 | cons c css ih =>
   rw [List.flatten_cons,zP,hm c (zM ..),ih (fun cs h=>hm cs (zO _ h)),List.length_cons,Nat.succ_mul];omega
theorem flatten_get {css:List (List Value)} {m:Nat} (hp:0<m) (hm:∀ cs ∈ css,cs.length=m) (j:Nat) (u:Value) (h:css.flatten[j]? =some u):∃ cs,css[j / m]? =some cs∧cs[j % m]? =some u:=by
 have hj:j<css.length * m:=by
  rw [← kBD hm];rcases zF j css.flatten.length with q | q
  · exact q
  · rw [List.getElem?_eq_none q] at h;cases h
 have hi:j / m<css.length:=(Nat.div_lt_iff_lt_mul hp).2 hj;have hl:=hm css[j / m] (List.getElem_mem hi);have hr:j % m<css[j / m].length:=by rw [hl];exact Nat.mod_lt _ hp
 refine ⟨css[j / m],zG hi,?_⟩;have:=kFS hm (j / m) css[j / m] (j % m) (css[j / m][j % m]) (zG hi) (zG hr);rw [Nat.mul_comm,Nat.div_add_mod,h] at this;rw [zG hr,this]
structure Kp (v v':Value) (w w':World):Prop where
 block:∀ k,k<w.heap.size→v.ownBlock≠some k→w'.heap[k]? =w.heap[k]?
 own:v'.ownBlock=v.ownBlock∨v'.ownBlock=some w.heap.size
theorem Kp.cell {v v':Value} {w w':World} (h:Kp v v' w w') {a:Addr} {u:Value} (hc:w.cell? a=some u) (hne:v.ownBlock≠some a.block):w'.cell? a=some u:=kCE hc fun hlt=>h.block _ hlt hne
theorem Own.run_app {α :Type} {R:Rep α} {P:Program} {T E:TypeId} {bytes:Nat} (he:ElemOf P T E R.size bytes) {S:Blk} {w:World} {base:Nat} {v:Value} {l l':List α} (h:Own R E S w base v l) (ty:TypeId) (ao:Option Addr) (m c:Nat)
 (hm:l'.length=m) (hn:ao=none→c=0) (hel:∀ (i:Nat) (x: α),l'[i]? =some x→∃ b off cs,ao=some ⟨b,off,none⟩∧R.rd (fun k=>S k∧v.ownBlock≠some k) w cs x∧∀ j u,cs[j]? =some u→w.cell? ⟨b,off+(i * R.size+j),none⟩=some u)
 (hlen:(l.length+m) * bytes≤140737488355328) (hmax:l.length+m≤maxLen) (hbase:base≤w.heap.size) :
 ∃ v' w',(Builtin.append_ #[T,T] ty #[v,.slice ao m c]).run P w= .ok v' w'∧Own R E S w' base v' (l++l')∧Below base w w'∧Kp v v' w w':=by
 obtain ⟨i0,z0,hi,hz,hs,hb,hzs⟩:=he.parts;obtain ⟨css,hcl,hrow,hrd⟩:=h.row;cases ao with
 | none =>
   obtain rfl:=hn rfl
   have hm0:l'=[]:=by
    cases l' with
    | nil=>rfl
    | cons x l'=>obtain ⟨b,off,cs,e,_⟩:=hel 0 x rfl;cases e
   subst hm0;have hm1:m=0:=hm.symm;subst hm1;refine ⟨v,w,run_append_owned_none (P:=P) (w:=w) base T ty E i0 R.size he.slice hi v _ _ hrow,?_,zB _ _,⟨fun _ _ _=>rfl,.inl rfl⟩⟩;rw [List.append_nil];exact h
 | some ad =>
   -- the cells of what is appended
   have hch:∀ (n:Nat) (q:List α),(∀ (i:Nat) (x: α),q[i]? =some x→∃ cs:List Value,R.rd (fun k=>S k∧v.ownBlock≠some k) w cs x∧∀ j u,cs[j]? =some u→w.cell? (ad.add ((n+i) * R.size+j))=some u) →
    ∃ dss:List (List Value),dss.length=q.length∧(∀ (i:Nat) (x: α),q[i]? =some x→∃ cs,dss[i]? =some cs∧R.rd (fun k=>S k∧v.ownBlock≠some k) w cs x∧∀ j u,cs[j]? =some u→w.cell? (ad.add ((n+i) * R.size+j))=some u):=by
    intro n q
    induction q generalizing n with
    | nil=>exact fun _=>⟨[],rfl,fun i x hx=>by simp at hx⟩
    | cons x q ih =>
      intro hq;obtain ⟨cs,c1,c2⟩:=hq 0 x rfl
      obtain ⟨dss,d1,d2⟩:=ih (n+1) (fun i y hy=>by
       obtain ⟨ds,e1,e2⟩:=hq (i+1) y (by simpa using hy);exact ⟨ds,e1,by rwa [show n+1+i=n+(i+1) by omega]⟩)
      refine ⟨cs :: dss,by simp [d1],fun i y hy=>?_⟩;cases i with
      | zero=>simp at hy;subst hy;exact ⟨cs,rfl,c1,c2⟩
      | succ i =>
        obtain ⟨ds,e1,e2,e3⟩:=d2 i y (by simpa using hy);exact ⟨ds,by simpa using e1,e2,by rwa [show n+1+i=n+(i+1) by omega] at e3⟩
   obtain ⟨dss,hdl,hdd⟩:=hch 0 l' (fun i x hx=>by
    obtain ⟨b,off,cs,e,r1,r2⟩:=hel i x hx;cases e;refine ⟨cs,r1,fun j u hu=>?_⟩;rw [add_mk,Nat.zero_add];exact r2 j u hu)
   have hdm:∀ cs ∈ dss,cs.length=R.size:=fun cs hc=>by
    obtain ⟨i,hi',rfl⟩:=List.getElem_of_mem hc;obtain ⟨cs2,e2,r2,_⟩:=hdd i (l'[i]'(by omega)) (zG (by omega));rw [zG hi'] at e2;cases e2;exact R.len r2
   have hnews:∀ j u,dss.flatten[j]? =some u→w.cell? (ad.add j)=some u:=fun j u hu=>by
    obtain ⟨cs,e1,e2⟩:=flatten_get R.pos hdm j u hu
    have hjl:j / R.size<dss.length:=by
     rcases zF (j / R.size) dss.length with q | q
     · exact q
     · rw [List.getElem?_eq_none q] at e1;cases e1
    obtain ⟨cs2,f1,f2,f3⟩:=hdd (j / R.size) (l'[j / R.size]'(by omega)) (zG (by omega));rw [e1] at f1;cases f1;have:=f3 _ u e2
    rwa [Nat.zero_add,Nat.mul_comm,Nat.div_add_mod] at this
   have hone:∀ u ∈ dss.flatten,u.oneCell'=true:=fun u hu=>by
    obtain ⟨cs,hc,hu'⟩:=List.mem_flatten.1 hu;obtain ⟨i,hi',rfl⟩:=List.getElem_of_mem hc;obtain ⟨cs2,e2,r2,_⟩:=hdd i (l'[i]'(by omega)) (zG (by omega));rw [zG hi'] at e2;cases e2;exact R.one r2 u hu'
   obtain ⟨v',w',h1,h2,h3,_,h5⟩:=run_append_own_at (P:=P) w base T ty E i0 z0 R.size bytes he.slice hi hz hs hb hzs R.pos v _ _ hrow ad m c dss.flatten (by rw [kBD hdm,hdl,hm]) hnews hone hmax hlen hbase
   have hown:∀ k,v.ownBlock=some k→base≤k:=fun k hk=>by
    obtain ⟨a',c',hv,_,_,_,hg⟩:=kC0 hrow;subst hv;cases a' with
    | none=>simp [Value.ownBlock] at hk
    | some b =>
      obtain ⟨g,e,hg1,_⟩:=hg b rfl;subst e;simp [Value.ownBlock] at hk;omega
   have hB:Below base w w':=(zB _ _).grown h3 hbase hown;refine ⟨v',w',h1,⟨⟨css++dss,by simp [hcl,hdl],?_,fun i x hx=>?_⟩⟩,hB,⟨fun k hlt hne=>h3.block k hlt (fun e=>hne e.symm),h5⟩⟩
   · rw [List.flatten_append,zP,hm]
     exact h2
   · have keep:∀ {cs:List Value} {y: α},R.rd (fun k=>S k∧v.ownBlock≠some k) w cs y→R.rd (fun k=>S k∧v'.ownBlock≠some k) w' cs y:=fun {cs y} hr=>by
      have hr2:=R.mono (S':=fun k=>(S k∧v.ownBlock≠some k)∧k<w.heap.size) hr (fun k h1 h2=>⟨h1,h2⟩);have hr3:=R.frame (w':=w') hr2 (fun k hk hlt=>h3.block k hlt (fun e=>hk.1.2 e.symm));refine R.mono hr3 (fun k hk _=>⟨hk.1.1,fun e=>?_⟩);rcases h5 with q | q
      · exact hk.1.2 (by rw [← q];exact e)
      · rw [q] at e
        have:=hk.2;simp at e;omega
     rcases zF i l.length with q | q
     · rw [List.getElem?_append_left q] at hx
       obtain ⟨cs,e1,e2⟩:=hrd i x hx;exact ⟨cs,by rw [List.getElem?_append_left (by omega)];exact e1,keep e2⟩
     · rw [List.getElem?_append_right q] at hx
       obtain ⟨cs,e1,e2,_⟩:=hdd (i - l.length) x hx;exact ⟨cs,by rw [List.getElem?_append_right (by omega),hcl];exact e1,keep e2⟩
theorem Own.frame {α :Type} {R:Rep α} {E:TypeId} {S:Blk} {w w':World} {base:Nat} {v:Value} {l:List α} (h:Own R E S w base v l) (hf:∀ k,k<w.heap.size→(S k∨v.ownBlock=some k)→w'.heap[k]? =w.heap[k]?) (hsz:w.heap.size≤w'.heap.size):Own R E S w' base v l:=by
 obtain ⟨css,h1,h2,h3⟩:=h.row;refine ⟨css,h1,?_,fun i x hx=>let ⟨cs,e1,e2⟩:=h3 i x hx;⟨cs,e1,R.frame e2 fun k hk hlt=>hf k hlt (.inl hk.1)⟩⟩;obtain ⟨q0,q | ⟨g,cap,cur,hv,hg,hh,r⟩⟩:=h2
 · exact ⟨q0,.inl q⟩
 · refine ⟨q0,.inr ⟨g,cap,cur,hv,hg,?_,r⟩⟩
   rw [hf g (by
    rcases zF g w.heap.size with q | q
    · exact q
    · rw [Array.getElem?_eq_none q] at hh;cases hh) (.inr (by rw [hv];rfl))]
   exact hh
theorem Own.below {α :Type} {R:Rep α} {E:TypeId} {S:Blk} {w w':World} {base:Nat} {v:Value} {l:List α} (h:Own R E S w base v l) (hb:Below w.heap.size w w'):Own R E S w' base v l:=h.frame (fun k hk _=>hb.block k hk) hb.size
theorem Own.alloc {α :Type} {R:Rep α} {E:TypeId} {S:Blk} {w:World} {base:Nat} {v:Value} {l:List α} (h:Own R E S w base v l) (o:Obj):Own R E S (w.alloc o) base v l:=h.below ((zB _ _).alloc (zR _) o)
theorem Own.drew {α :Type} {R:Rep α} {E:TypeId} {S:Blk} {w:World} {base:Nat} {v:Value} {l:List α} (h:Own R E S w base v l):Own R E S w.drew base v l:=h.below (zB _ _).drew
theorem Own.lower {α :Type} {R:Rep α} {E:TypeId} {S:Blk} {w:World} {base base':Nat} {v:Value} {l:List α} (h:Own R E S w base v l) (hb:base'≤base):Own R E S w base' v l:=by
 obtain ⟨css,h1,h2,h3⟩:=h.row;refine ⟨css,h1,?_,h3⟩;obtain ⟨q0,q | ⟨g,cap,cur,hv,hg,r⟩⟩:=h2
 · exact ⟨q0,.inl q⟩
 · exact ⟨q0,.inr ⟨g,cap,cur,hv,zE hb hg,r⟩⟩
theorem Own.mono {α :Type} {R:Rep α} {E:TypeId} {S S':Blk} {w:World} {base:Nat} {v:Value} {l:List α} (h:Own R E S w base v l) (hs:∀ k,S k→k<w.heap.size→S' k):Own R E S' w base v l:=by
 obtain ⟨css,h1,h2,h3⟩:=h.row;exact ⟨css,h1,h2,fun i x hx=>let ⟨cs,e1,e2⟩:=h3 i x hx;⟨cs,e1,R.mono e2 fun k hk hlt=>⟨hs k hk.1 hlt,hk.2⟩⟩⟩
theorem Own.block {α :Type} {R:Rep α} {E:TypeId} {S:Blk} {w:World} {base:Nat} {v:Value} {l:List α} (h:Own R E S w base v l) {k:Nat} (hk:v.ownBlock=some k):base≤k∧k<w.heap.size:=by
 obtain ⟨css,_,hrow,_⟩:=h.row;obtain ⟨a',c',hv,_,_,_,hg⟩:=kC0 hrow;subst hv;cases a' with
 | none=>simp [Value.ownBlock] at hk
 | some b =>
   obtain ⟨g,e,hg1,hg2⟩:=hg b rfl;subst e;simp [Value.ownBlock] at hk;omega
theorem kA1 {α :Type} {R:Rep α} {P:Program} {T E:TypeId} {bytes:Nat} (he:ElemOf P T E R.size bytes) {ops:Array Oper} {rest:List Oper} {o:Oper} {a:Act} {Q:Exit→Act→World→Prop} {w:World} (hgd:o.guard=none) (s x:Operand)
 (ho:o.op= .call { callee:=.builtin .append,args:=#[s,x],argTypes:=#[T,T] }) {S:Blk} (base:Nat) (v:Value) (l:List α) (hs:a.eval s=v) (hown:Own R E S w base v l) (b:Nat) (y: α) (cs:List Value)
 (hx:a.eval x= .slice (some ⟨b,0,none⟩) 1 1) (hy:R.rd (fun k=>S k∧v.ownBlock≠some k) w cs y) (hc:∀ j u,cs[j]? =some u→w.cell? ⟨b,j,none⟩=some u) (hlen:(l.length+1) * bytes≤140737488355328) (hmax:l.length+1≤maxLen) (hbase:base≤w.heap.size)
 (h:∀ v' w',Own R E S w' base v' (l++[y])→Below base w w'→Kp v v' w w'→wpList P ops Q rest (a.put o.dst v') w'):wpList P ops Q (o :: rest) a w:=by
 obtain ⟨v',w',h1,h2,h3,h4⟩:=hown.run_app he (l':=[y]) o.type (some ⟨b,0,none⟩) 1 1 rfl (by intro h;cases h) (fun i z hz=>by
  cases i with
  | zero=>simp at hz;subst hz;exact ⟨b,0,cs,rfl,hy,fun j u hu=>by rw [Nat.zero_add,Nat.zero_mul,Nat.zero_add];exact hc j u hu⟩
  | succ i=>simp at hz) hlen hmax hbase
 refine wpList_plain hgd fun K hK=>?_
 unfold Oper.wp;simp [execOp,ho,resolve,invoke,builtin,hs,hx,h1,Result.andThen];exact hK _ _ (h v' w' h2 h3 h4)
theorem app_sl {α :Type} {R:Rep α} {P:Program} {T E:TypeId} {bytes:Nat} (he:ElemOf P T E R.size bytes) {ops:Array Oper} {rest:List Oper} {o:Oper} {a:Act} {Q:Exit→Act→World→Prop} {w:World} (hgd:o.guard=none) (s x:Operand)
 (ho:o.op= .call { callee:=.builtin .append,args:=#[s,x],argTypes:=#[T,T] }) {S:Blk} (base:Nat) (v:Value) (l l':List α) (hs:a.eval s=v) (hown:Own R E S w base v l) (ao:Option Addr) (m c:Nat)
 (hx:a.eval x= .slice ao m c) (hy:Sl R (fun k=>S k∧v.ownBlock≠some k) w ao m c l') (hlen:(l.length+m) * bytes≤140737488355328) (hmax:l.length+m≤maxLen) (hbase:base≤w.heap.size)
 (h:∀ v' w',Own R E S w' base v' (l++l')→Below base w w'→Kp v v' w w'→wpList P ops Q rest (a.put o.dst v') w'):wpList P ops Q (o :: rest) a w:=by
 obtain ⟨v',w',h1,h2,h3,h4⟩:=hown.run_app he (l':=l') o.type ao m c hy.len hy.nil (fun i z hz=>let ⟨b,off,cs,e,_,r,q⟩:=hy.at_ i z hz;⟨b,off,cs,e,r,q⟩) hlen hmax hbase;refine wpList_plain hgd fun K hK=>?_
 unfold Oper.wp;simp [execOp,ho,resolve,invoke,builtin,hs,hx,h1,Result.andThen];exact hK _ _ (h v' w' h2 h3 h4)
abbrev Str:=ByteArray
def RStr:Rep Str:=⟨1,fun _ _ cs x=>cs=[.string x],by decide,by rintro S w cs x rfl;rfl,by rintro S w cs x rfl u hu;simp at hu;subst hu;rfl,fun h _=>h,fun h _=>h⟩
structure Later (W:World) where
 w:World
 b:Below W.heap.size W w
instance (W:World):Nonempty (Later W):=⟨⟨W,zB _ _⟩⟩
theorem Later.cell {W:World} {a:Addr} {v:Value} (h:W.cell? a=some v) (t:Later W):t.w.cell? a=some v:=by rw [t.b.cell (kB5 h)];exact h
theorem Later.call {P:Program} {f:FuncId} {args:Array Value} {W:World} {t:Later W} {v:Value} (h:Calls P f args t.w fun e w'=>e= .returned v∧Below t.w.heap.size t.w w'):Calls P f args t.w fun e w''=>e= .returned v∧∃ t':Later W,w''=t'.w :=
 h.mono fun e w' ⟨he,hb⟩=>⟨he,⟨w',t.b.trans (hb.mono t.b.size)⟩,rfl⟩
theorem Later.same {P:Program} {f:FuncId} {args:Array Value} {W:World} {t:Later W} {v:Value} (h:Calls P f args t.w fun e w'=>e= .returned v∧t.w=w'):Calls P f args t.w fun e w''=>e= .returned v∧∃ t':Later W,w''=t'.w :=
 h.mono fun e w' ⟨he,hb⟩=>⟨he,t,hb.symm⟩
theorem kAC {P:Program} {id:Nat} {Q:Exit→Act→World→Prop} {a:Act} {w:World} {l:List Oper} (hm:P.follows .mixedOrders=true) (hB:Region.lexB .any l.toArray=true)
 (h:wpQuiet P l.toArray (fun w'=>∃ t:Later w,w'=t.w) (fun a'=>∀ w',(∃ t:Later w,w'=t.w)→Q .normal a' w') l a):(Code.region id l.toArray true).wp P Q a w :=
 wp_region_quiet (C:=fun w'=>∃ t:Later w,w'=t.w) hm hB ⟨⟨{ w with drawn:=w.drawn+1 },⟨rfl,rfl,rfl,zR _,fun _ _=>rfl⟩⟩,rfl⟩ (by simpa using h)
theorem box0 {w:World} {g:Nat} {E:TypeId} {cs:List Value} (h:w.heap[g]? =some (.cells cs.toArray E (0,0))) (j:Nat) (u:Value) (hu:cs[j]? =some u):w.cell? ⟨g,j,none⟩=some u:=by
 simp [World.cell?,h,hu]
theorem box1 (w:World) (E:TypeId) (cs:List Value):RowKit.Hid (Below w.heap.size w (w.alloc (.cells cs.toArray E)))∧(w.alloc (.cells cs.toArray E)).heap[w.heap.size]? =some (.cells cs.toArray E (0,0))∧(w.alloc (.cells cs.toArray E)).heap.size=w.heap.size+1 :=
 ⟨hJ ((zB _ _).alloc (zR _) _),by show (w.heap.push _)[w.heap.size]? =_;simp,by simp⟩
theorem box2 (w:World) (E:TypeId) (cs:List Value) (E2:TypeId) (cs2:List Value):RowKit.Hid (Below w.heap.size w ((w.alloc (.cells cs.toArray E)).alloc (.cells cs2.toArray E2)))∧((w.alloc (.cells cs.toArray E)).alloc (.cells cs2.toArray E2)).heap[w.heap.size]? =some (.cells cs.toArray E (0,0))∧((w.alloc (.cells cs.toArray E)).alloc (.cells cs2.toArray E2)).heap[w.heap.size+1]? =some (.cells cs2.toArray E2 (0,0))∧((w.alloc (.cells cs.toArray E)).alloc (.cells cs2.toArray E2)).heap.size=w.heap.size+2:=by
 obtain ⟨b1,h1,s1⟩:=box1 w E cs;obtain ⟨b2,h2,s2⟩:=box1 (w.alloc (.cells cs.toArray E)) E2 cs2;rw [s1] at h2 s2;exact ⟨hJ (b1.out.trans (b2.out.mono (by omega))),(b2.out.block _ (by omega)).trans h1,h2,s2⟩
theorem box3 (w:World) (E:TypeId) (cs:List Value) (E2:TypeId) (cs2:List Value) (E3:TypeId) (cs3:List Value):RowKit.Hid (Below w.heap.size w (((w.alloc (.cells cs.toArray E)).alloc (.cells cs2.toArray E2)).alloc (.cells cs3.toArray E3)))∧(((w.alloc (.cells cs.toArray E)).alloc (.cells cs2.toArray E2)).alloc (.cells cs3.toArray E3)).heap[w.heap.size]? =some (.cells cs.toArray E (0,0))∧(((w.alloc (.cells cs.toArray E)).alloc (.cells cs2.toArray E2)).alloc (.cells cs3.toArray E3)).heap[w.heap.size+1]? =some (.cells cs2.toArray E2 (0,0))∧(((w.alloc (.cells cs.toArray E)).alloc (.cells cs2.toArray E2)).alloc (.cells cs3.toArray E3)).heap[w.heap.size+1+1]? =some (.cells cs3.toArray E3 (0,0))∧(((w.alloc (.cells cs.toArray E)).alloc (.cells cs2.toArray E2)).alloc (.cells cs3.toArray E3)).heap.size=w.heap.size+3:=by
 obtain ⟨b1,h1,h1',s1⟩:=box2 w E cs E2 cs2;obtain ⟨b2,h2,s2⟩:=box1 ((w.alloc (.cells cs.toArray E)).alloc (.cells cs2.toArray E2)) E3 cs3;rw [s1] at h2 s2;exact ⟨hJ (b1.out.trans (b2.out.mono (by omega))),(b2.out.block _ (by omega)).trans h1,(b2.out.block _ (by omega)).trans h1',h2,s2⟩
def nb (s:Str):List Int:=s.data.toList.map fun c=>(c.toNat:Int)
theorem nb_length (s:Str):(nb s).length=s.size:=by unfold nb;rw [List.length_map];rfl
theorem nb_byte (s:Str):∀ x ∈ nb s,0≤x∧x≤255:=by
 intro x hx;obtain ⟨c,_,rfl⟩:=List.mem_map.1 hx;have:=c.toNat_lt;omega
def bt (s:Str) (k:Nat):Int:=(nb s).getD k 0
theorem kD5 (s:Str) (n:Nat) (h:n<s.size):((s[n]'h).toNat:Int)=bt s n:=by
 unfold bt nb;rw [zD,List.getElem?_map,zG (show n<s.data.toList.length from h)];rfl
theorem bt_byte (s:Str) (k:Nat):0≤bt s k∧bt s k≤255:=by
 unfold bt;rcases zF k (nb s).length with g | g
 · rw [zD,zG g];exact nb_byte s _ (List.getElem_mem g)
 · rw [zD,List.getElem?_eq_none g];exact ⟨by decide,by decide⟩
def seq (a b:Str):Bool:=a.toList==b.toList
def slt (a b:Str):Bool:=Op.bytesLess a.toList b.toList
theorem kA6 (a b:Str):seq a b=true ↔ a=b:=by
 unfold seq;rw [beq_iff_eq,ByteArray.toList_eq,ByteArray.toList_eq];exact ⟨fun h=>ByteArray.ext (Array.toList_inj.1 h),fun h=>by rw [h]⟩
theorem seq_refl (a:Str):seq a a=true:=(kA6 a a).2 rfl
theorem kHG (a b:Str):seq a b=seq b a:=by
 by_cases h:a=b
 · rw [h]
 · rw [Bool.eq_false_iff.2 (fun g=>h ((kA6 a b).1 g)),Bool.eq_false_iff.2 (fun g=>h ((kA6 b a).1 g).symm)]
theorem bl_irrefl:∀ x:List UInt8,Op.bytesLess x x=false
 | []=>rfl
 | a :: x=>by simp [Op.bytesLess,bl_irrefl x]
theorem bl_trans:∀ x y z:List UInt8,Op.bytesLess x y=true→Op.bytesLess y z=true→Op.bytesLess x z=true
 | _,[],_,h,_=>by simp [Op.bytesLess] at h
 | _,_ :: _,[],_,h=>by simp [Op.bytesLess] at h
 | [],_ :: _,_ :: _,_,_=>by simp [Op.bytesLess]
 | a :: x,b :: y,c :: z,h1,h2=>by
   simp only [Op.bytesLess,Bool.or_eq_true,decide_eq_true_eq,zA,beq_iff_eq] at *;rcases h1 with h1 | ⟨rfl,h1⟩
   · rcases h2 with h2 | ⟨rfl,h2⟩
     · exact .inl (UInt8.lt_trans h1 h2)
     · exact .inl h1
   · rcases h2 with h2 | ⟨rfl,h2⟩
     · exact .inl h2
     · exact .inr ⟨rfl,bl_trans x y z h1 h2⟩
theorem bl_total:∀ x y:List UInt8,Op.bytesLess x y=false→Op.bytesLess y x=false→x=y
 | [],[],_,_=>rfl
 | [],_ :: _,h,_=>by simp [Op.bytesLess] at h
 | _ :: _,[],_,h=>by simp [Op.bytesLess] at h
 | a :: x,b :: y,h1,h2=>by
   simp only [Op.bytesLess,Bool.or_eq_false_iff,decide_eq_false_iff_not,Bool.and_eq_false_iff,beq_eq_false_iff_ne] at *
   have hab:a=b:=by
    have q1:=h1.1;have q2:=h2.1;rw [UInt8.not_lt] at q1 q2;exact UInt8.le_antisymm q2 q1
   subst hab;rcases h1.2 with q | q
   · exact absurd rfl q
   · rcases h2.2 with r | r
     · exact absurd rfl r
     · rw [bl_total x y q r]
theorem kCG (a:Str):slt a a=false:=bl_irrefl _
theorem kEK {a b c:Str} (h1:slt a b=true) (h2:slt b c=true):slt a c=true:=bl_trans _ _ _ h1 h2
theorem kFJ {a b:Str} (h1:slt a b=false) (h2:slt b a=false):a=b:=(kA6 a b).1 (by unfold seq;rw [beq_iff_eq];exact bl_total _ _ h1 h2)
theorem kFK {a b:Str} (h1:slt a b=true):slt b a=false:=by
 rw [Bool.eq_false_iff];intro h2;have:=kEK h1 h2;rw [kCG] at this;cases this
structure Coef where
 v:Str
 c:Int
structure Lin where
 const:Int
 terms:List Coef
structure Shp where
 row:Str
 dims:List Lin
structure Typ where
 elem:Str
 shape:Shp
structure Sch where
 params:List Typ
 result:Typ
 wh:List Lin
structure Bnd where
 kind:Int
 v:Str
 dim:Lin
 row:Shp
 elem:Str
structure Ent where
 name:Str
 scheme:Sch
structure Ifc where
 module_:Str
 entries:List Ent
instance:Inhabited Coef:=⟨⟨default,0⟩⟩
instance:Inhabited Lin:=⟨⟨0,[]⟩⟩
instance:Inhabited Shp:=⟨⟨default,[]⟩⟩
instance:Inhabited Typ:=⟨⟨default,default⟩⟩
instance:Inhabited Sch:=⟨⟨[],default,[]⟩⟩
instance:Inhabited Bnd:=⟨⟨0,default,default,default,default⟩⟩
instance:Inhabited Ent:=⟨⟨default,default⟩⟩
def kA7:Rep Coef:=⟨2,fun _ _ cs x=>cs=[.string x.v,.int .i64 x.c],by decide,by rintro S w cs x rfl;rfl,by rintro S w cs x rfl u hu;simp at hu;rcases hu with rfl | rfl <;> rfl,fun h _=>h,fun h _=>h⟩
def SlV {α :Type} (R:Rep α) (S:Blk) (w:World) (v:Value) (l:List α):Prop:=∃ a c,v= .slice a l.length c∧Sl R S w a l.length c l
theorem SlV.frame {α :Type} {R:Rep α} {S:Blk} {w w':World} {v:Value} {l:List α} (h:SlV R S w v l) (hf:∀ k,S k→k<w.heap.size→w'.heap[k]? =w.heap[k]?):SlV R S w' v l :=
 let ⟨a,c,e,h⟩:=h;⟨a,c,e,h.frame hf⟩
theorem SlV.mono {α :Type} {R:Rep α} {S S':Blk} {w:World} {v:Value} {l:List α} (h:SlV R S w v l) (hs:∀ k,S k→k<w.heap.size→S' k):SlV R S' w v l :=
 let ⟨a,c,e,h⟩:=h;⟨a,c,e,h.mono hs⟩
theorem SlV.one {α :Type} {R:Rep α} {S:Blk} {w:World} {v:Value} {l:List α} (h:SlV R S w v l):v.oneCell'=true:=by
 obtain ⟨a,c,rfl,_⟩:=h;rfl
def RLin:Rep Lin:=⟨2,fun S w cs x=>∃ t,cs=[.int .i64 x.const,t]∧SlV kA7 S w t x.terms,by decide,by rintro S w cs x ⟨t,rfl,_⟩;rfl,
 by rintro S w cs x ⟨t,rfl,ht⟩ u hu;simp at hu;rcases hu with rfl | rfl;rfl;exact ht.one,fun ⟨t,e,h⟩ hf=>⟨t,e,h.frame hf⟩,fun ⟨t,e,h⟩ hs=>⟨t,e,h.mono hs⟩⟩
def RShp:Rep Shp:=⟨2,fun S w cs x=>∃ t,cs=[.string x.row,t]∧SlV RLin S w t x.dims,by decide,by rintro S w cs x ⟨t,rfl,_⟩;rfl,
 by rintro S w cs x ⟨t,rfl,ht⟩ u hu;simp at hu;rcases hu with rfl | rfl;rfl;exact ht.one,fun ⟨t,e,h⟩ hf=>⟨t,e,h.frame hf⟩,fun ⟨t,e,h⟩ hs=>⟨t,e,h.mono hs⟩⟩
def RTyp:Rep Typ:=⟨3,fun S w cs x=>∃ t,cs=[.string x.elem,.string x.shape.row,t]∧SlV RLin S w t x.shape.dims,by decide,by rintro S w cs x ⟨t,rfl,_⟩;rfl,
 by rintro S w cs x ⟨t,rfl,ht⟩ u hu;simp at hu;rcases hu with rfl | rfl | rfl;rfl;rfl;exact ht.one,fun ⟨t,e,h⟩ hf=>⟨t,e,h.frame hf⟩,fun ⟨t,e,h⟩ hs=>⟨t,e,h.mono hs⟩⟩
def RSch:Rep Sch:=⟨5,fun S w cs x=>∃ p t q,cs=[p,.string x.result.elem,.string x.result.shape.row,t,q]∧SlV RTyp S w p x.params∧SlV RLin S w t x.result.shape.dims∧SlV RLin S w q x.wh,by decide,by rintro S w cs x ⟨p,t,q,rfl,_⟩;rfl,
 by rintro S w cs x ⟨p,t,q,rfl,h1,h2,h3⟩ u hu;simp at hu;rcases hu with rfl | rfl | rfl | rfl | rfl;exact h1.one;rfl;rfl;exact h2.one;exact h3.one,fun ⟨p,t,q,e,h1,h2,h3⟩ hf=>⟨p,t,q,e,h1.frame hf,h2.frame hf,h3.frame hf⟩,fun ⟨p,t,q,e,h1,h2,h3⟩ hs=>⟨p,t,q,e,h1.mono hs,h2.mono hs,h3.mono hs⟩⟩
def RBnd:Rep Bnd:=⟨7,fun S w cs x=>∃ t d,cs=[.int .i64 x.kind,.string x.v,.int .i64 x.dim.const,t,.string x.row.row,d,.string x.elem]∧SlV kA7 S w t x.dim.terms∧SlV RLin S w d x.row.dims,by decide,by rintro S w cs x ⟨t,d,rfl,_⟩;rfl,
 by rintro S w cs x ⟨t,d,rfl,h1,h2⟩ u hu;simp at hu;rcases hu with rfl | rfl | rfl | rfl | rfl | rfl | rfl;rfl;rfl;rfl;exact h1.one;rfl;exact h2.one;rfl,fun ⟨t,d,e,h1,h2⟩ hf=>⟨t,d,e,h1.frame hf,h2.frame hf⟩,fun ⟨t,d,e,h1,h2⟩ hs=>⟨t,d,e,h1.mono hs,h2.mono hs⟩⟩
def REnt:Rep Ent:=⟨6,fun S w cs x=>∃ cs',cs= .string x.name :: cs'∧RSch.rd S w cs' x.scheme,by decide,by rintro S w cs x ⟨cs',rfl,h⟩;show cs'.length+1=6;rw [RSch.len h];rfl,
 by rintro S w cs x ⟨cs',rfl,h⟩ u hu;simp at hu;rcases hu with rfl | hu;rfl;exact RSch.one h u hu,fun ⟨cs',e,h⟩ hf=>⟨cs',e,RSch.frame h hf⟩,fun ⟨cs',e,h⟩ hs=>⟨cs',e,RSch.mono h hs⟩⟩
end Go.Proofs.YtcjfagnlmlkedaaGreatDoor
namespace Go.Proofs
open Go.Shelf
def Tryz.lays156_ren:Go.Shelf.Ren:=⟨fun | 156=>105 | 165=>165 | 166=>166 | 169=>167 | 240=>231 | 241=>232 | 276=>296 | 277=>297 | n=>n,fun | 31=>81 | 9=>9 | 3=>3 | 4=>4 | 0=>0 | 20=>20 | 72=>181 | 76=>185 | 70=>179 | 37=>169 | 75=>184 | 127=>262 | 164=>332 | 5=>5 | 80=>187 | n=>n,fun | n=>n⟩
theorem Tryz.lays156:Go.Proofs.Lays.n156 Tryz.prog Tryz.lays156_ren:= {
 mixed:=by kernel_rfl
 f156:=func105.trans (congrArg some (by kernel_rfl))
 f165:=func165.trans (congrArg some (by kernel_rfl))
 f166:=func166.trans (congrArg some (by kernel_rfl))
 f169:=func167.trans (congrArg some (by kernel_rfl))
 f240:=func231.trans (congrArg some (by kernel_rfl))
 f241:=func232.trans (congrArg some (by kernel_rfl))
 f276:=func296.trans (congrArg some (by kernel_rfl))
 f277:=func297.trans (congrArg some (by kernel_rfl))
 t0:=underlying0
 a0:=isAgg0
 z0:=sizeOf0
 v0:=zeroValue0
 t3:=underlying3
 a3:=isAgg3
 z3:=sizeOf3
 v3:=zeroValue3
 t4:=underlying4
 a4:=isAgg4
 z4:=sizeOf4
 v4:=zeroValue4
 t9:=underlying9
 a9:=isAgg9
 z9:=sizeOf9
 v9:=zeroValue9
 t20:=underlying20
 a20:=isAgg20
 z20:=sizeOf20
 v20:=zeroValue20
 t31:=underlying81
 a31:=isAgg81
 z31:=sizeOf81
 v31:=zeroValue81
 t37:=underlying169
 a37:=isAgg169
 z37:=sizeOf169
 v37:=zeroValue169
 t70:=underlying179
 a70:=isAgg179
 z70:=sizeOf179
 v70:=zeroValue179
 t72:=underlying181
 a72:=isAgg181
 z72:=sizeOf181
 v72:=zeroValue181
 t75:=underlying184
 a75:=isAgg184
 z75:=sizeOf184
 v75:=zeroValue184
 t76:=underlying185
 a76:=isAgg185
 z76:=sizeOf185
 v76:=zeroValue185
 t127:=underlying262
 a127:=isAgg262
 z127:=sizeOf262
 v127:=zeroValue262
 t164:=underlying332
 a164:=isAgg332
 z164:=sizeOf332
 v164:=zeroValue332 }
theorem Tryz.Builder_Extra_156:Builder.Extra Tryz.prog Tryz.lays156_ren:= {
 sizeBuilder:=by kernel_rfl
 liesBuilder:=by kernel_rfl
 t5:=underlying5
 a5:=isAgg5
 z5:=sizeOf5
 v5:=zeroValue5
 infoByte:=by kernel_rfl
 cellsByte:=by kernel_rfl
 sizeByte:=by kernel_rfl
 neB5:=by decide }
open Go.RowKit in
theorem Tryz.strings_Join_none (a:Option Addr) (c:Nat) (sep:ByteArray) (w:World) :
 Calls Tryz.prog 105 #[.slice a 0 c,.string sep] w fun e w'=>e= .returned (.string ⟨#[]⟩)∧w'=w:=Any.strings_Join_none Tryz.lays156 Tryz.Builder_Extra_156 a c sep w
open Go.RowKit in
theorem Tryz.strings_Join (bk o c:Nat) (xs:List ByteArray) (sep:ByteArray) (w:World) (hcells:∀ (j:Nat) x,xs[j]? =some x→w.cell? ⟨bk,o+j,none⟩=some (.string x)) (hbk:bk<w.heap.size) (hN:xs.length≤140737488355328) (hcap:xs.length≤c) (hlen:(Lib.join (xs.map (·.data.toList)) sep.data.toList).length≤140737488355328) :
 Calls Tryz.prog 105 #[.slice (some ⟨bk,o,none⟩) xs.length c,.string sep] w fun e w'=>e= .returned (.string ⟨(Lib.join (xs.map (·.data.toList)) sep.data.toList).toArray⟩)∧Below w.heap.size w w':=Any.strings_Join Tryz.lays156 Tryz.Builder_Extra_156 bk o c xs sep w hcells hbk hN hcap hlen
def Tryz.lays161_ren:Go.Shelf.Ren:=⟨fun | 161=>162 | 231=>227 | 227=>228 | 233=>229 | 235=>230 | 228=>294 | 197=>224 | 151=>295 | 260=>293 | 152=>339 | 137=>99 | 119=>360 | 224=>219 | 225=>218 | 217=>153 | 266=>221 | n=>n,fun | 9=>9 | 4=>4 | 3=>3 | 5=>5 | 117=>258 | 116=>257 | 0=>0 | 124=>261 | 105=>252 | 21=>21 | 119=>377 | 46=>114 | 139=>380 | 138=>379 | n=>n,fun | 3=>2 | 4=>3 | n=>n⟩
theorem Tryz.lays161:Go.Proofs.Lays.n161 Tryz.prog Tryz.lays161_ren:= {
 mixed:=by kernel_rfl
 f119:=func360.trans (congrArg some (by kernel_rfl))
 f137:=func99.trans (congrArg some (by kernel_rfl))
 f151:=func295.trans (congrArg some (by kernel_rfl))
 f152:=func339.trans (congrArg some (by kernel_rfl))
 f161:=func162.trans (congrArg some (by kernel_rfl))
 f197:=func224.trans (congrArg some (by kernel_rfl))
 f217:=func153.trans (congrArg some (by kernel_rfl))
 f224:=func219.trans (congrArg some (by kernel_rfl))
 f225:=func218.trans (congrArg some (by kernel_rfl))
 f227:=func228.trans (congrArg some (by kernel_rfl))
 f228:=func294.trans (congrArg some (by kernel_rfl))
 f231:=func227.trans (congrArg some (by kernel_rfl))
 f233:=func229.trans (congrArg some (by kernel_rfl))
 f235:=func230.trans (congrArg some (by kernel_rfl))
 f260:=func293.trans (congrArg some (by kernel_rfl))
 f266:=func221.trans (congrArg some (by kernel_rfl))
 t0:=underlying0
 a0:=isAgg0
 z0:=sizeOf0
 v0:=zeroValue0
 t3:=underlying3
 a3:=isAgg3
 z3:=sizeOf3
 v3:=zeroValue3
 t4:=underlying4
 a4:=isAgg4
 z4:=sizeOf4
 v4:=zeroValue4
 t5:=underlying5
 a5:=isAgg5
 z5:=sizeOf5
 v5:=zeroValue5
 t9:=underlying9
 a9:=isAgg9
 z9:=sizeOf9
 v9:=zeroValue9
 t21:=underlying21
 a21:=isAgg21
 z21:=sizeOf21
 v21:=zeroValue21
 t46:=underlying114
 a46:=isAgg114
 z46:=sizeOf114
 v46:=zeroValue114
 t105:=underlying252
 a105:=isAgg252
 z105:=sizeOf252
 v105:=zeroValue252
 t116:=underlying257
 a116:=isAgg257
 z116:=sizeOf257
 t117:=underlying258
 a117:=isAgg258
 z117:=sizeOf258
 v117:=zeroValue258
 t119:=underlying377
 a119:=isAgg377
 z119:=sizeOf377
 t124:=underlying261
 a124:=isAgg261
 z124:=sizeOf261
 v124:=zeroValue261
 t138:=underlying379
 a138:=isAgg379
 z138:=sizeOf379
 v138:=zeroValue379
 t139:=underlying380
 a139:=isAgg380
 z139:=sizeOf380
 v139:=zeroValue380
 g3:=by kernel_rfl
 g4:=by kernel_rfl }
open Go.RowKit in
theorem Tryz.strings_TrimLeft_one (s:ByteArray) (c:UInt8) (hc:c.toNat<128) (w:World) :
 Calls Tryz.prog 162 #[.string s,.string ⟨#[c]⟩] w fun e w'=>e= .returned (.string ⟨(Lib.trimLeftB s.data.toList c).toArray⟩)∧w'=w:=Any.strings_TrimLeft_one Tryz.lays161 s c hc w
def Tryz.lays160_ren:Go.Shelf.Ren:=⟨fun | 160=>169 | 232=>234 | 231=>227 | 227=>228 | 234=>235 | 233=>229 | 236=>236 | 235=>230 | 228=>294 | 271=>298 | 151=>295 | 197=>224 | 120=>340 | 152=>339 | 260=>293 | 137=>99 | 119=>360 | 224=>219 | 225=>218 | 217=>153 | 266=>221 | n=>n,fun | 9=>9 | 4=>4 | 3=>3 | 5=>5 | 117=>258 | 116=>257 | 0=>0 | 124=>261 | 21=>21 | 105=>252 | 46=>114 | 119=>377 | 139=>380 | 138=>379 | n=>n,fun | 3=>2 | 4=>3 | n=>n⟩
theorem Tryz.lays160:Go.Proofs.Lays.n160 Tryz.prog Tryz.lays160_ren:= {
 mixed:=by kernel_rfl
 f119:=func360.trans (congrArg some (by kernel_rfl))
 f120:=func340.trans (congrArg some (by kernel_rfl))
 f137:=func99.trans (congrArg some (by kernel_rfl))
 f151:=func295.trans (congrArg some (by kernel_rfl))
 f152:=func339.trans (congrArg some (by kernel_rfl))
 f160:=func169.trans (congrArg some (by kernel_rfl))
 f197:=func224.trans (congrArg some (by kernel_rfl))
 f217:=func153.trans (congrArg some (by kernel_rfl))
 f224:=func219.trans (congrArg some (by kernel_rfl))
 f225:=func218.trans (congrArg some (by kernel_rfl))
 f227:=func228.trans (congrArg some (by kernel_rfl))
 f228:=func294.trans (congrArg some (by kernel_rfl))
 f231:=func227.trans (congrArg some (by kernel_rfl))
 f232:=func234.trans (congrArg some (by kernel_rfl))
 f233:=func229.trans (congrArg some (by kernel_rfl))
 f234:=func235.trans (congrArg some (by kernel_rfl))
 f235:=func230.trans (congrArg some (by kernel_rfl))
 f236:=func236.trans (congrArg some (by kernel_rfl))
 f260:=func293.trans (congrArg some (by kernel_rfl))
 f266:=func221.trans (congrArg some (by kernel_rfl))
 f271:=func298.trans (congrArg some (by kernel_rfl))
 t0:=underlying0
 a0:=isAgg0
 z0:=sizeOf0
 v0:=zeroValue0
 t3:=underlying3
 a3:=isAgg3
 z3:=sizeOf3
 v3:=zeroValue3
 t4:=underlying4
 a4:=isAgg4
 z4:=sizeOf4
 v4:=zeroValue4
 t5:=underlying5
 a5:=isAgg5
 z5:=sizeOf5
 v5:=zeroValue5
 t9:=underlying9
 a9:=isAgg9
 z9:=sizeOf9
 v9:=zeroValue9
 t21:=underlying21
 a21:=isAgg21
 z21:=sizeOf21
 v21:=zeroValue21
 t46:=underlying114
 a46:=isAgg114
 z46:=sizeOf114
 v46:=zeroValue114
 t105:=underlying252
 a105:=isAgg252
 z105:=sizeOf252
 v105:=zeroValue252
 t116:=underlying257
 a116:=isAgg257
 z116:=sizeOf257
 t117:=underlying258
 a117:=isAgg258
 z117:=sizeOf258
 v117:=zeroValue258
 t119:=underlying377
 a119:=isAgg377
 z119:=sizeOf377
 t124:=underlying261
 a124:=isAgg261
 z124:=sizeOf261
 v124:=zeroValue261
 t138:=underlying379
 a138:=isAgg379
 z138:=sizeOf379
 v138:=zeroValue379
 t139:=underlying380
 a139:=isAgg380
 z139:=sizeOf380
 v139:=zeroValue380
 g3:=by kernel_rfl
 g4:=by kernel_rfl }
def Tryz.lays125_ren:Go.Shelf.Ren:=⟨fun | 125=>74 | 128=>134 | 129=>135 | n=>n,fun | 46=>114 | 3=>3 | 51=>163 | 53=>165 | 4=>4 | 5=>5 | 9=>9 | n=>n,fun | n=>n⟩
theorem Tryz.lays125:Go.Proofs.Lays.n125 Tryz.prog Tryz.lays125_ren:= {
 mixed:=by kernel_rfl
 f125:=func74.trans (congrArg some (by kernel_rfl))
 f128:=func134.trans (congrArg some (by kernel_rfl))
 f129:=func135.trans (congrArg some (by kernel_rfl))
 t3:=underlying3
 a3:=isAgg3
 z3:=sizeOf3
 v3:=zeroValue3
 t4:=underlying4
 a4:=isAgg4
 z4:=sizeOf4
 v4:=zeroValue4
 t5:=underlying5
 a5:=isAgg5
 z5:=sizeOf5
 v5:=zeroValue5
 t9:=underlying9
 a9:=isAgg9
 z9:=sizeOf9
 v9:=zeroValue9
 t46:=underlying114
 a46:=isAgg114
 z46:=sizeOf114
 v46:=zeroValue114
 t51:=underlying163
 a51:=isAgg163
 z51:=sizeOf163
 v51:=zeroValue163
 t53:=underlying165
 a53:=isAgg165
 z53:=sizeOf165
 v53:=zeroValue165 }
theorem Tryz.bits_Len (x:Int) (w:World) (h0:0≤x) (h1:x≤18446744073709551615) :
 Calls Tryz.prog 74 #[.int .u64 x] w fun e w'=>e= .returned (.int .i64 (Lib.bitLen x.toNat))∧w'=w:=Any.bits_Len Tryz.lays125 x w h0 h1
def Tryz.lays106_ren:Go.Shelf.Ren:=⟨fun | 106=>60 | 213=>119 | 265=>199 | n=>n,fun | 9=>9 | 3=>3 | n=>n,fun | n=>n⟩
theorem Tryz.lays106:Go.Proofs.Lays.n106 Tryz.prog Tryz.lays106_ren:= {
 mixed:=by kernel_rfl
 f106:=func60.trans (congrArg some (by kernel_rfl))
 f213:=func119.trans (congrArg some (by kernel_rfl))
 f265:=func199.trans (congrArg some (by kernel_rfl))
 t3:=underlying3
 a3:=isAgg3
 z3:=sizeOf3
 v3:=zeroValue3
 t9:=underlying9
 a9:=isAgg9
 z9:=sizeOf9
 v9:=zeroValue9 }
open Go.RowKit in
theorem Tryz.strings_Compare (a b:ByteArray) (w:World) :
 Calls Tryz.prog 60 #[.string a,.string b] w fun e w'=>e= .returned (.int .i64 (Lib.compareBytes a.data.toList b.data.toList))∧w'=w:=Any.strings_Compare Tryz.lays106 a b w
def Tryz.lays137_ren:Go.Shelf.Ren:=⟨fun | 137=>99 | 217=>153 | 266=>221 | n=>n,fun | 9=>9 | 5=>5 | 3=>3 | n=>n,fun | n=>n⟩
theorem Tryz.lays137:Go.Proofs.Lays.n137 Tryz.prog Tryz.lays137_ren:= {
 mixed:=by kernel_rfl
 f137:=func99.trans (congrArg some (by kernel_rfl))
 f217:=func153.trans (congrArg some (by kernel_rfl))
 f266:=func221.trans (congrArg some (by kernel_rfl))
 t3:=underlying3
 a3:=isAgg3
 z3:=sizeOf3
 v3:=zeroValue3
 t5:=underlying5
 a5:=isAgg5
 z5:=sizeOf5
 v5:=zeroValue5
 t9:=underlying9
 a9:=isAgg9
 z9:=sizeOf9
 v9:=zeroValue9 }
open Go.RowKit in
theorem Tryz.strings_IndexByte (s:ByteArray) (c:Int) (w:World) :
 Calls Tryz.prog 99 #[.string s,.int .u8 c] w fun e w'=>e= .returned (.int .i64 (Lib.indexByte s.data.toList c.toNat.toUInt8))∧w'=w:=Any.strings_IndexByte Tryz.lays137 s c w
def Tryz.lays103_ren:Go.Shelf.Ren:=⟨fun | 103=>42 | 210=>98 | 206=>152 | n=>n,fun | 9=>9 | 4=>4 | 24=>79 | 3=>3 | n=>n,fun | n=>n⟩
theorem Tryz.lays103:Go.Proofs.Lays.n103 Tryz.prog Tryz.lays103_ren:= {
 mixed:=by kernel_rfl
 f103:=func42.trans (congrArg some (by kernel_rfl))
 f206:=func152.trans (congrArg some (by kernel_rfl))
 f210:=func98.trans (congrArg some (by kernel_rfl))
 t3:=underlying3
 a3:=isAgg3
 z3:=sizeOf3
 v3:=zeroValue3
 t4:=underlying4
 a4:=isAgg4
 z4:=sizeOf4
 v4:=zeroValue4
 t9:=underlying9
 a9:=isAgg9
 z9:=sizeOf9
 v9:=zeroValue9
 t24:=underlying79
 a24:=isAgg79
 z24:=sizeOf79
 v24:=zeroValue79 }
open Go.RowKit in
theorem Tryz.strings_CutPrefix (s p:ByteArray) (w:World) :
 Calls Tryz.prog 42 #[.string s,.string p] w fun e w'=>e= .returned (.tuple #[.string ⟨(Lib.trimPrefix s.data.toList p.data.toList).toArray⟩,.bool (Lib.hasPrefix s.data.toList p.data.toList)])∧w'=w:=Any.strings_CutPrefix Tryz.lays103 s p w
def Tryz.lays104_ren:Go.Shelf.Ren:=⟨fun | 104=>154 | 211=>222 | 207=>233 | n=>n,fun | 9=>9 | 4=>4 | 24=>79 | 3=>3 | n=>n,fun | n=>n⟩
theorem Tryz.lays104:Go.Proofs.Lays.n104 Tryz.prog Tryz.lays104_ren:= {
 mixed:=by kernel_rfl
 f104:=func154.trans (congrArg some (by kernel_rfl))
 f207:=func233.trans (congrArg some (by kernel_rfl))
 f211:=func222.trans (congrArg some (by kernel_rfl))
 t3:=underlying3
 a3:=isAgg3
 z3:=sizeOf3
 v3:=zeroValue3
 t4:=underlying4
 a4:=isAgg4
 z4:=sizeOf4
 v4:=zeroValue4
 t9:=underlying9
 a9:=isAgg9
 z9:=sizeOf9
 v9:=zeroValue9
 t24:=underlying79
 a24:=isAgg79
 z24:=sizeOf79
 v24:=zeroValue79 }
open Go.RowKit in
theorem Tryz.strings_CutSuffix (s p:ByteArray) (w:World) (hs:s.size≤9223372036854775807) :
 Calls Tryz.prog 154 #[.string s,.string p] w fun e w'=>e= .returned (.tuple #[.string ⟨(Lib.trimSuffix s.data.toList p.data.toList).toArray⟩,.bool (Lib.hasSuffix s.data.toList p.data.toList)])∧w'=w:=Any.strings_CutSuffix Tryz.lays104 s p w hs
def Tryz.laysM171_ren:Go.Shelf.Ren:=⟨fun | 171=>21 | 243=>71 | 246=>125 | 283=>202 | 284=>203 | 285=>204 | 286=>205 | 129=>135 | 317=>279 | 318=>280 | 319=>281 | 320=>282 | 337=>334 | 338=>335 | n=>n,fun | 3=>3 | 9=>9 | 2=>2 | 4=>4 | 171=>237 | 0=>0 | 53=>165 | 37=>169 | 5=>5 | 173=>239 | 212=>319 | 51=>163 | 20=>20 | 213=>320 | 46=>114 | 232=>403 | 233=>404 | n=>n,fun | 17=>1 | 18=>6 | 19=>7 | n=>n⟩
theorem Tryz.laysM171:Go.Proofs.LaysM.n171 Tryz.prog Tryz.laysM171_ren:= {
 mixed:=by kernel_rfl
 f129:=func135.trans (congrArg some (by kernel_rfl))
 f171:=func21.trans (congrArg some (by kernel_rfl))
 f243:=func71.trans (congrArg some (by kernel_rfl))
 f246:=func125.trans (congrArg some (by kernel_rfl))
 f283:=func202.trans (congrArg some (by kernel_rfl))
 f284:=func203.trans (congrArg some (by kernel_rfl))
 f285:=func204.trans (congrArg some (by kernel_rfl))
 f286:=func205.trans (congrArg some (by kernel_rfl))
 f317:=func279.trans (congrArg some (by kernel_rfl))
 f318:=func280.trans (congrArg some (by kernel_rfl))
 f319:=func281.trans (congrArg some (by kernel_rfl))
 f320:=func282.trans (congrArg some (by kernel_rfl))
 f337:=func334.trans (congrArg some (by kernel_rfl))
 f338:=func335.trans (congrArg some (by kernel_rfl))
 t0:=underlying0
 a0:=isAgg0
 z0:=sizeOf0
 v0:=zeroValue0
 t2:=underlying2
 a2:=isAgg2
 z2:=sizeOf2
 v2:=zeroValue2
 t3:=underlying3
 a3:=isAgg3
 z3:=sizeOf3
 v3:=zeroValue3
 t4:=underlying4
 a4:=isAgg4
 z4:=sizeOf4
 v4:=zeroValue4
 t5:=underlying5
 a5:=isAgg5
 z5:=sizeOf5
 v5:=zeroValue5
 t9:=underlying9
 a9:=isAgg9
 z9:=sizeOf9
 v9:=zeroValue9
 t20:=underlying20
 a20:=isAgg20
 z20:=sizeOf20
 v20:=zeroValue20
 t37:=underlying169
 a37:=isAgg169
 z37:=sizeOf169
 v37:=zeroValue169
 t46:=underlying114
 a46:=isAgg114
 z46:=sizeOf114
 v46:=zeroValue114
 t51:=underlying163
 a51:=isAgg163
 z51:=sizeOf163
 v51:=zeroValue163
 t53:=underlying165
 a53:=isAgg165
 z53:=sizeOf165
 v53:=zeroValue165
 t171:=underlying237
 a171:=isAgg237
 z171:=sizeOf237
 v171:=zeroValue237
 t173:=underlying239
 a173:=isAgg239
 z173:=sizeOf239
 v173:=zeroValue239
 t212:=underlying319
 a212:=isAgg319
 z212:=sizeOf319
 v212:=zeroValue319
 t213:=underlying320
 a213:=isAgg320
 z213:=sizeOf320
 t232:=underlying403
 a232:=isAgg403
 z232:=sizeOf403
 v232:=zeroValue403
 t233:=underlying404
 a233:=isAgg404
 z233:=sizeOf404
 v233:=zeroValue404
 g17:=by kernel_rfl
 g18:=by kernel_rfl
 g19:=by kernel_rfl
 i0:=by kernel_rfl
 i2:=by kernel_rfl
 i3:=by kernel_rfl
 i4:=by kernel_rfl
 i5:=by kernel_rfl
 i9:=by kernel_rfl
 i20:=by kernel_rfl
 i37:=by kernel_rfl
 i46:=by kernel_rfl
 i51:=by kernel_rfl
 i53:=by kernel_rfl
 i171:=by kernel_rfl
 i173:=by kernel_rfl
 i212:=by kernel_rfl
 i232:=by kernel_rfl
 i233:=by kernel_rfl
 m17:=by kernel_rfl
 m18:=by kernel_rfl
 m19:=by kernel_rfl }
open Go.RowKit Go.Sort Go.Lib in
theorem Tryz.strconv_Itoa (n:Int) (h0: -9223372036854775808≤n) (h1:n≤9223372036854775807) (w:World) (htab:Lib.TabIs Tryz.prog w "internal/strconv.uint64pow10" .u64 Lib.pow10Tab) :
 Calls Tryz.prog 21 #[.int .i64 n] w fun e w'=>e= .returned (.string ⟨(Lib.itoa n).toArray⟩)∧∃ k os,w'=grow (w.drewN k) os:=Any.strconv_Itoa Tryz.laysM171 n h0 h1 w htab
def Tryz.laysC172_ren:Go.Shelf.Ren:=⟨fun | 172=>201 | 244=>277 | 245=>278 | 247=>329 | 279=>330 | 280=>331 | 281=>332 | 282=>333 | 287=>356 | 316=>357 | 171=>21 | 205=>358 | 321=>368 | 322=>369 | 243=>71 | 246=>125 | 283=>202 | 284=>203 | 285=>204 | 286=>205 | 129=>135 | 317=>279 | 318=>280 | 319=>281 | 320=>282 | 337=>334 | 338=>335 | n=>n,fun | 9=>9 | 3=>3 | 75=>184 | 76=>185 | 4=>4 | 5=>5 | 167=>369 | 37=>169 | 0=>0 | 85=>370 | 2=>2 | 168=>372 | 53=>165 | 175=>397 | 46=>114 | 210=>401 | 127=>262 | 145=>418 | 143=>416 | 21=>21 | 171=>237 | 173=>239 | 212=>319 | 51=>163 | 20=>20 | 213=>320 | 232=>403 | 233=>404 | 80=>187 | n=>n,fun | 15=>4 | 16=>5 | 17=>1 | 18=>6 | 19=>7 | n=>n⟩
theorem Tryz.laysC172:Go.Proofs.LaysC.n172 Tryz.prog Tryz.laysC172_ren:= {
 mixed:=by kernel_rfl
 f129:=func135.trans (congrArg some (by kernel_rfl))
 f171:=func21.trans (congrArg some (by kernel_rfl))
 f172:=func201.trans (congrArg some (by kernel_rfl))
 f205:=func358.trans (congrArg some (by kernel_rfl))
 f243:=func71.trans (congrArg some (by kernel_rfl))
 f244:=func277.trans (congrArg some (by kernel_rfl))
 f245:=func278.trans (congrArg some (by kernel_rfl))
 f246:=func125.trans (congrArg some (by kernel_rfl))
 f247:=func329.trans (congrArg some (by kernel_rfl))
 f279:=func330.trans (congrArg some (by kernel_rfl))
 f280:=func331.trans (congrArg some (by kernel_rfl))
 f281:=func332.trans (congrArg some (by kernel_rfl))
 f282:=func333.trans (congrArg some (by kernel_rfl))
 f283:=func202.trans (congrArg some (by kernel_rfl))
 f284:=func203.trans (congrArg some (by kernel_rfl))
 f285:=func204.trans (congrArg some (by kernel_rfl))
 f286:=func205.trans (congrArg some (by kernel_rfl))
 f287:=func356.trans (congrArg some (by kernel_rfl))
 f316:=func357.trans (congrArg some (by kernel_rfl))
 f317:=func279.trans (congrArg some (by kernel_rfl))
 f318:=func280.trans (congrArg some (by kernel_rfl))
 f319:=func281.trans (congrArg some (by kernel_rfl))
 f320:=func282.trans (congrArg some (by kernel_rfl))
 f321:=func368.trans (congrArg some (by kernel_rfl))
 f322:=func369.trans (congrArg some (by kernel_rfl))
 f337:=func334.trans (congrArg some (by kernel_rfl))
 f338:=func335.trans (congrArg some (by kernel_rfl))
 t0:=underlying0
 a0:=isAgg0
 z0:=sizeOf0
 v0:=zeroValue0
 t2:=underlying2
 a2:=isAgg2
 z2:=sizeOf2
 v2:=zeroValue2
 t3:=underlying3
 a3:=isAgg3
 z3:=sizeOf3
 v3:=zeroValue3
 t4:=underlying4
 a4:=isAgg4
 z4:=sizeOf4
 v4:=zeroValue4
 t5:=underlying5
 a5:=isAgg5
 z5:=sizeOf5
 v5:=zeroValue5
 t9:=underlying9
 a9:=isAgg9
 z9:=sizeOf9
 v9:=zeroValue9
 t20:=underlying20
 a20:=isAgg20
 z20:=sizeOf20
 v20:=zeroValue20
 t21:=underlying21
 a21:=isAgg21
 z21:=sizeOf21
 v21:=zeroValue21
 t37:=underlying169
 a37:=isAgg169
 z37:=sizeOf169
 v37:=zeroValue169
 t46:=underlying114
 a46:=isAgg114
 z46:=sizeOf114
 v46:=zeroValue114
 t51:=underlying163
 a51:=isAgg163
 z51:=sizeOf163
 v51:=zeroValue163
 t53:=underlying165
 a53:=isAgg165
 z53:=sizeOf165
 v53:=zeroValue165
 t75:=underlying184
 a75:=isAgg184
 z75:=sizeOf184
 v75:=zeroValue184
 t76:=underlying185
 a76:=isAgg185
 z76:=sizeOf185
 v76:=zeroValue185
 t85:=underlying370
 a85:=isAgg370
 z85:=sizeOf370
 v85:=zeroValue370
 t127:=underlying262
 a127:=isAgg262
 z127:=sizeOf262
 v127:=zeroValue262
 t143:=underlying416
 a143:=isAgg416
 z143:=sizeOf416
 v143:=zeroValue416
 t145:=underlying418
 a145:=isAgg418
 z145:=sizeOf418
 v145:=zeroValue418
 t167:=underlying369
 a167:=isAgg369
 z167:=sizeOf369
 v167:=zeroValue369
 t168:=underlying372
 a168:=isAgg372
 z168:=sizeOf372
 v168:=zeroValue372
 t171:=underlying237
 a171:=isAgg237
 z171:=sizeOf237
 v171:=zeroValue237
 t173:=underlying239
 a173:=isAgg239
 z173:=sizeOf239
 v173:=zeroValue239
 t175:=underlying397
 a175:=isAgg397
 z175:=sizeOf397
 v175:=zeroValue397
 t210:=underlying401
 a210:=isAgg401
 z210:=sizeOf401
 v210:=zeroValue401
 t212:=underlying319
 a212:=isAgg319
 z212:=sizeOf319
 v212:=zeroValue319
 t213:=underlying320
 a213:=isAgg320
 z213:=sizeOf320
 t232:=underlying403
 a232:=isAgg403
 z232:=sizeOf403
 v232:=zeroValue403
 t233:=underlying404
 a233:=isAgg404
 z233:=sizeOf404
 v233:=zeroValue404
 g15:=by kernel_rfl
 g16:=by kernel_rfl
 g17:=by kernel_rfl
 g18:=by kernel_rfl
 g19:=by kernel_rfl
 t80:=underlying187
 a80:=isAgg187
 z80:=sizeOf187
 v80:=zeroValue187
 i0:=by kernel_rfl
 i2:=by kernel_rfl
 i3:=by kernel_rfl
 i4:=by kernel_rfl
 i5:=by kernel_rfl
 i9:=by kernel_rfl
 i20:=by kernel_rfl
 i21:=by kernel_rfl
 i37:=by kernel_rfl
 i46:=by kernel_rfl
 i51:=by kernel_rfl
 i53:=by kernel_rfl
 i75:=by kernel_rfl
 i76:=by kernel_rfl
 i80:=by kernel_rfl
 i85:=by kernel_rfl
 i127:=by kernel_rfl
 i143:=by kernel_rfl
 i145:=by kernel_rfl
 i167:=by kernel_rfl
 i168:=by kernel_rfl
 i171:=by kernel_rfl
 i173:=by kernel_rfl
 i175:=by kernel_rfl
 i210:=by kernel_rfl
 i212:=by kernel_rfl
 i232:=by kernel_rfl
 i233:=by kernel_rfl
 m15:=by kernel_rfl
 m16:=by kernel_rfl
 m17:=by kernel_rfl
 m18:=by kernel_rfl
 m19:=by kernel_rfl
 c0:=by kernel_rfl
 c2:=by kernel_rfl
 c3:=by kernel_rfl
 c4:=by kernel_rfl
 c5:=by kernel_rfl
 c9:=by kernel_rfl
 c20:=by kernel_rfl
 c21:=by kernel_rfl
 c37:=by kernel_rfl
 c46:=by kernel_rfl
 c51:=by kernel_rfl
 c53:=by kernel_rfl
 c75:=by kernel_rfl
 c76:=by kernel_rfl
 c80:=by kernel_rfl
 c85:=by kernel_rfl
 c127:=by kernel_rfl
 c143:=by kernel_rfl
 c145:=by kernel_rfl
 c167:=by kernel_rfl
 c168:=by kernel_rfl
 c171:=by kernel_rfl
 c173:=by kernel_rfl
 c175:=by kernel_rfl
 c210:=by kernel_rfl
 c212:=by kernel_rfl
 c213:=by kernel_rfl
 c232:=by kernel_rfl
 c233:=by kernel_rfl }
open Go.RowKit in
theorem Tryz.strconv_Atoi_ok (s:ByteArray) (hmax:s.size≤9223372036854775806) (v:Int) (h:Lib.atoiAll s.data.toList= .ok v) (w:World) :
 Calls Tryz.prog 201 #[.string s] w fun e w'=>e= .returned (.tuple #[.int .i64 v,.nilIface])∧(w'=w∨∃ t,w'=Lib.bytesWorld w 5 t):=Any.strconv_Atoi_ok Tryz.laysC172 s hmax v h w
open Go.RowKit in
theorem Tryz.strconv_Atoi_range_var (s:ByteArray) (hlim:s.size≤281474976710656) (h:Lib.atoiAll s.data.toList= .range) (tp:TypeId) (p:Value) (w:World) (hvar:w.var? Tryz.prog "strconv.ErrRange" =some #[.iface tp p]) :
 Calls Tryz.prog 201 #[.string s] w fun e w'=>∃ N,e= .returned (.tuple #[.int .i64 (Lib.atoiSat s.data.toList),.iface 372 (.pointer (some ⟨N,0,none⟩))])∧w.heap.size≤N∧w'.heap[N]? =some (.cells #[.string ⟨#[65,116,111,105]⟩,.string s,.iface tp p] 401 (0,0))∧Below w.heap.size w w':=Any.strconv_Atoi_range_var Tryz.laysC172 s hlim h tp p w hvar
def Tryz.lays145_ren:Go.Shelf.Ren:=⟨fun | 145=>41 | 220=>97 | 219=>151 | 217=>153 | 225=>218 | 224=>219 | 267=>220 | 266=>221 | 314=>292 | n=>n,fun | 9=>9 | 4=>4 | 59=>77 | 3=>3 | 5=>5 | 46=>114 | 146=>329 | 51=>163 | n=>n,fun | 1=>0 | n=>n⟩
theorem Tryz.lays145:Go.Proofs.Lays.n145 Tryz.prog Tryz.lays145_ren:= {
 mixed:=by kernel_rfl
 f145:=func41.trans (congrArg some (by kernel_rfl))
 f217:=func153.trans (congrArg some (by kernel_rfl))
 f219:=func151.trans (congrArg some (by kernel_rfl))
 f220:=func97.trans (congrArg some (by kernel_rfl))
 f224:=func219.trans (congrArg some (by kernel_rfl))
 f225:=func218.trans (congrArg some (by kernel_rfl))
 f266:=func221.trans (congrArg some (by kernel_rfl))
 f267:=func220.trans (congrArg some (by kernel_rfl))
 f314:=func292.trans (congrArg some (by kernel_rfl))
 t3:=underlying3
 a3:=isAgg3
 z3:=sizeOf3
 v3:=zeroValue3
 t4:=underlying4
 a4:=isAgg4
 z4:=sizeOf4
 v4:=zeroValue4
 t5:=underlying5
 a5:=isAgg5
 z5:=sizeOf5
 v5:=zeroValue5
 t9:=underlying9
 a9:=isAgg9
 z9:=sizeOf9
 v9:=zeroValue9
 t46:=underlying114
 a46:=isAgg114
 z46:=sizeOf114
 v46:=zeroValue114
 t51:=underlying163
 a51:=isAgg163
 z51:=sizeOf163
 v51:=zeroValue163
 t59:=underlying77
 a59:=isAgg77
 z59:=sizeOf77
 v59:=zeroValue77
 t146:=underlying329
 a146:=isAgg329
 z146:=sizeOf329
 v146:=zeroValue329
 g1:=by kernel_rfl }
open Go.RowKit Go.Lib in
theorem Tryz.strings_Cut (s sep:ByteArray) (m:Int) (w:World) (hs:s.size<4294967281) (hm:w.cell? ⟨0,0,none⟩=some (.int .i64 m)) :
 Calls Tryz.prog 41 #[.string s,.string sep] w fun e w'=>e= .returned (.tuple #[.string ⟨(Lib.cut s.data.toList sep.data.toList).1.toArray⟩,.string ⟨(Lib.cut s.data.toList sep.data.toList).2.1.toArray⟩,.bool (Lib.cut s.data.toList sep.data.toList).2.2])∧∃ n,w'=w.drewN n:=Any.strings_Cut Tryz.lays145 s sep m w hs hm
def Tryz.lays190_ren:Go.Shelf.Ren:=⟨fun | 190=>150 | 125=>74 | 258=>217 | 128=>134 | 129=>135 | 302=>284 | 303=>285 | 304=>286 | 305=>287 | 306=>288 | 307=>289 | 308=>244 | 309=>290 | 310=>291 | 333=>336 | 329=>207 | 330=>208 | 334=>337 | 335=>338 | 336=>303 | 344=>359 | n=>n,fun | 31=>81 | 9=>9 | 3=>3 | 46=>114 | 0=>0 | 51=>163 | 53=>165 | 4=>4 | 183=>157 | 182=>156 | 131=>61 | 5=>5 | 218=>241 | 222=>245 | 228=>321 | 229=>322 | n=>n,fun | n=>n⟩
theorem Tryz.lays190:Go.Proofs.Lays.n190 Tryz.prog Tryz.lays190_ren:= {
 mixed:=by kernel_rfl
 f125:=func74.trans (congrArg some (by kernel_rfl))
 f128:=func134.trans (congrArg some (by kernel_rfl))
 f129:=func135.trans (congrArg some (by kernel_rfl))
 f190:=func150.trans (congrArg some (by kernel_rfl))
 f258:=func217.trans (congrArg some (by kernel_rfl))
 f302:=func284.trans (congrArg some (by kernel_rfl))
 f303:=func285.trans (congrArg some (by kernel_rfl))
 f304:=func286.trans (congrArg some (by kernel_rfl))
 f305:=func287.trans (congrArg some (by kernel_rfl))
 f306:=func288.trans (congrArg some (by kernel_rfl))
 f307:=func289.trans (congrArg some (by kernel_rfl))
 f308:=func244.trans (congrArg some (by kernel_rfl))
 f309:=func290.trans (congrArg some (by kernel_rfl))
 f310:=func291.trans (congrArg some (by kernel_rfl))
 f329:=func207.trans (congrArg some (by kernel_rfl))
 f330:=func208.trans (congrArg some (by kernel_rfl))
 f333:=func336.trans (congrArg some (by kernel_rfl))
 f334:=func337.trans (congrArg some (by kernel_rfl))
 f335:=func338.trans (congrArg some (by kernel_rfl))
 f336:=func303.trans (congrArg some (by kernel_rfl))
 f344:=func359.trans (congrArg some (by kernel_rfl))
 t0:=underlying0
 a0:=isAgg0
 z0:=sizeOf0
 v0:=zeroValue0
 t3:=underlying3
 a3:=isAgg3
 z3:=sizeOf3
 v3:=zeroValue3
 t4:=underlying4
 a4:=isAgg4
 z4:=sizeOf4
 v4:=zeroValue4
 t5:=underlying5
 a5:=isAgg5
 z5:=sizeOf5
 v5:=zeroValue5
 t9:=underlying9
 a9:=isAgg9
 z9:=sizeOf9
 v9:=zeroValue9
 t31:=underlying81
 a31:=isAgg81
 z31:=sizeOf81
 v31:=zeroValue81
 t46:=underlying114
 a46:=isAgg114
 z46:=sizeOf114
 v46:=zeroValue114
 t51:=underlying163
 a51:=isAgg163
 z51:=sizeOf163
 v51:=zeroValue163
 t53:=underlying165
 a53:=isAgg165
 z53:=sizeOf165
 v53:=zeroValue165
 t131:=underlying61
 a131:=isAgg61
 z131:=sizeOf61
 v131:=zeroValue61
 t182:=underlying156
 a182:=isAgg156
 z182:=sizeOf156
 v182:=zeroValue156
 t183:=underlying157
 a183:=isAgg157
 z183:=sizeOf157
 v183:=zeroValue157
 t218:=underlying241
 a218:=isAgg241
 z218:=sizeOf241
 v218:=zeroValue241
 t222:=underlying245
 a222:=isAgg245
 z222:=sizeOf245
 v222:=zeroValue245
 t228:=underlying321
 a228:=isAgg321
 z228:=sizeOf321
 v228:=zeroValue321
 t229:=underlying322
 a229:=isAgg322
 z229:=sizeOf322
 v229:=zeroValue322 }
open Go.Sort Go.RowKit in
theorem Tryz.slices_Sort_string (blk off cap:Nat) (ss:List (List UInt8)) (w:World) (hH:Holds encStr w blk off ss.toArray) (hblk:blk<w.heap.size) (hsz:ss.length<4611686018427387904) :
 Calls Tryz.prog 150 #[.slice (some ⟨blk,off,none⟩) ss.length cap] w fun e w' =>
  e= .returned (.tuple #[])∧∃ n os,w'=grow (putRow encStr (Sort.ahead w n) blk off (ss.mergeSort fun x y=>decide (x≤y)).toArray) os:=Any.slices_Sort_string Tryz.lays190 blk off cap ss w hH hblk hsz
def Tryz.lays99_ren:Go.Shelf.Ren:=⟨fun | 99=>163 | 206=>152 | n=>n,fun | 9=>9 | 4=>4 | 3=>3 | n=>n,fun | n=>n⟩
theorem Tryz.lays99:Go.Proofs.Lays.n99 Tryz.prog Tryz.lays99_ren:= {
 mixed:=by kernel_rfl
 f99:=func163.trans (congrArg some (by kernel_rfl))
 f206:=func152.trans (congrArg some (by kernel_rfl))
 t3:=underlying3
 a3:=isAgg3
 z3:=sizeOf3
 v3:=zeroValue3
 t4:=underlying4
 a4:=isAgg4
 z4:=sizeOf4
 v4:=zeroValue4
 t9:=underlying9
 a9:=isAgg9
 z9:=sizeOf9
 v9:=zeroValue9 }
open Go.RowKit Go.Lib in
theorem Tryz.strings_HasPrefix (s p:ByteArray) (w:World) :
 Calls Tryz.prog 163 #[.string s,.string p] w fun e w'=>e= .returned (.bool (Lib.hasPrefix s.data.toList p.data.toList))∧w'=w:=Any.strings_HasPrefix Tryz.lays99 s p w
def Tryz.lays102_ren:Go.Shelf.Ren:=⟨fun | 102=>108 | 209=>168 | 207=>233 | n=>n,fun | 9=>9 | 4=>4 | 3=>3 | n=>n,fun | n=>n⟩
theorem Tryz.lays102:Go.Proofs.Lays.n102 Tryz.prog Tryz.lays102_ren:= {
 mixed:=by kernel_rfl
 f102:=func108.trans (congrArg some (by kernel_rfl))
 f207:=func233.trans (congrArg some (by kernel_rfl))
 f209:=func168.trans (congrArg some (by kernel_rfl))
 t3:=underlying3
 a3:=isAgg3
 z3:=sizeOf3
 v3:=zeroValue3
 t4:=underlying4
 a4:=isAgg4
 z4:=sizeOf4
 v4:=zeroValue4
 t9:=underlying9
 a9:=isAgg9
 z9:=sizeOf9
 v9:=zeroValue9 }
open Go.RowKit Go.Lib in
theorem Tryz.strings_TrimSuffix (s p:ByteArray) (w:World) (hs:s.size≤9223372036854775807) :
 Calls Tryz.prog 108 #[.string s,.string p] w fun e w'=>e= .returned (.string ⟨(Lib.trimSuffix s.data.toList p.data.toList).toArray⟩)∧w'=w:=Any.strings_TrimSuffix Tryz.lays102 s p w hs
def Tryz.lays146_ren:Go.Shelf.Ren:=⟨fun | 146=>45 | 221=>101 | 268=>156 | 138=>157 | 143=>158 | 195=>223 | 197=>224 | 218=>225 | 219=>151 | 260=>293 | 217=>153 | 225=>218 | 224=>219 | 267=>220 | 266=>221 | 314=>292 | n=>n,fun | 9=>9 | 31=>81 | 3=>3 | 4=>4 | 0=>0 | 105=>252 | 21=>21 | 5=>5 | 46=>114 | 119=>377 | 139=>380 | 138=>379 | 146=>329 | 51=>163 | n=>n,fun | 1=>0 | 3=>2 | 4=>3 | n=>n⟩
theorem Tryz.lays146:Go.Proofs.Lays.n146 Tryz.prog Tryz.lays146_ren:= {
 mixed:=by kernel_rfl
 f138:=func157.trans (congrArg some (by kernel_rfl))
 f143:=func158.trans (congrArg some (by kernel_rfl))
 f146:=func45.trans (congrArg some (by kernel_rfl))
 f195:=func223.trans (congrArg some (by kernel_rfl))
 f197:=func224.trans (congrArg some (by kernel_rfl))
 f217:=func153.trans (congrArg some (by kernel_rfl))
 f218:=func225.trans (congrArg some (by kernel_rfl))
 f219:=func151.trans (congrArg some (by kernel_rfl))
 f221:=func101.trans (congrArg some (by kernel_rfl))
 f224:=func219.trans (congrArg some (by kernel_rfl))
 f225:=func218.trans (congrArg some (by kernel_rfl))
 f260:=func293.trans (congrArg some (by kernel_rfl))
 f266:=func221.trans (congrArg some (by kernel_rfl))
 f267:=func220.trans (congrArg some (by kernel_rfl))
 f268:=func156.trans (congrArg some (by kernel_rfl))
 f314:=func292.trans (congrArg some (by kernel_rfl))
 t0:=underlying0
 a0:=isAgg0
 z0:=sizeOf0
 v0:=zeroValue0
 t3:=underlying3
 a3:=isAgg3
 z3:=sizeOf3
 v3:=zeroValue3
 t4:=underlying4
 a4:=isAgg4
 z4:=sizeOf4
 v4:=zeroValue4
 t5:=underlying5
 a5:=isAgg5
 z5:=sizeOf5
 v5:=zeroValue5
 t9:=underlying9
 a9:=isAgg9
 z9:=sizeOf9
 v9:=zeroValue9
 t21:=underlying21
 a21:=isAgg21
 z21:=sizeOf21
 v21:=zeroValue21
 t31:=underlying81
 a31:=isAgg81
 z31:=sizeOf81
 v31:=zeroValue81
 t46:=underlying114
 a46:=isAgg114
 z46:=sizeOf114
 v46:=zeroValue114
 t51:=underlying163
 a51:=isAgg163
 z51:=sizeOf163
 v51:=zeroValue163
 t105:=underlying252
 a105:=isAgg252
 z105:=sizeOf252
 v105:=zeroValue252
 t119:=underlying377
 a119:=isAgg377
 z119:=sizeOf377
 t138:=underlying379
 a138:=isAgg379
 z138:=sizeOf379
 v138:=zeroValue379
 t139:=underlying380
 a139:=isAgg380
 z139:=sizeOf380
 v139:=zeroValue380
 t146:=underlying329
 a146:=isAgg329
 z146:=sizeOf329
 v146:=zeroValue329
 g1:=by kernel_rfl
 g3:=by kernel_rfl
 g4:=by kernel_rfl }
open Go.RowKit Go.Lib in
theorem Tryz.strings_Split (s sep:ByteArray) (m:Int) (w:World) (hs:s.size<4294967281) (hm:w.cell? ⟨0,0,none⟩=some (.int .i64 m)) (h1:1≤sep.size) :
 Calls Tryz.prog 45 #[.string s,.string sep] w fun e w' =>
  e= .returned (.slice (some ⟨w.heap.size,0,none⟩) (Lib.countB s sep+1) (Lib.countB s sep+1))∧w'=w.alloc (.cells ((Lib.splitB sep 0 (Lib.countB s sep) s).map Value.string).toArray 9):=Any.strings_Split Tryz.lays146 (by kernel_rfl) s sep m w hs hm h1
def Tryz.laysM146_ren:Go.Shelf.Ren:=⟨fun | 146=>45 | 221=>101 | 268=>156 | 138=>157 | 143=>158 | 195=>223 | 197=>224 | 218=>225 | 219=>151 | 260=>293 | 217=>153 | 225=>218 | 224=>219 | 267=>220 | 266=>221 | 314=>292 | n=>n,fun | 9=>9 | 31=>81 | 3=>3 | 4=>4 | 0=>0 | 105=>252 | 21=>21 | 5=>5 | 46=>114 | 119=>377 | 139=>380 | 138=>379 | 146=>329 | 51=>163 | n=>n,fun | 1=>0 | 3=>2 | 4=>3 | n=>n⟩
theorem Tryz.laysM146:Go.Proofs.LaysM.n146 Tryz.prog Tryz.laysM146_ren:= {
 mixed:=by kernel_rfl
 f138:=func157.trans (congrArg some (by kernel_rfl))
 f143:=func158.trans (congrArg some (by kernel_rfl))
 f146:=func45.trans (congrArg some (by kernel_rfl))
 f195:=func223.trans (congrArg some (by kernel_rfl))
 f197:=func224.trans (congrArg some (by kernel_rfl))
 f217:=func153.trans (congrArg some (by kernel_rfl))
 f218:=func225.trans (congrArg some (by kernel_rfl))
 f219:=func151.trans (congrArg some (by kernel_rfl))
 f221:=func101.trans (congrArg some (by kernel_rfl))
 f224:=func219.trans (congrArg some (by kernel_rfl))
 f225:=func218.trans (congrArg some (by kernel_rfl))
 f260:=func293.trans (congrArg some (by kernel_rfl))
 f266:=func221.trans (congrArg some (by kernel_rfl))
 f267:=func220.trans (congrArg some (by kernel_rfl))
 f268:=func156.trans (congrArg some (by kernel_rfl))
 f314:=func292.trans (congrArg some (by kernel_rfl))
 t0:=underlying0
 a0:=isAgg0
 z0:=sizeOf0
 v0:=zeroValue0
 t3:=underlying3
 a3:=isAgg3
 z3:=sizeOf3
 v3:=zeroValue3
 t4:=underlying4
 a4:=isAgg4
 z4:=sizeOf4
 v4:=zeroValue4
 t5:=underlying5
 a5:=isAgg5
 z5:=sizeOf5
 v5:=zeroValue5
 t9:=underlying9
 a9:=isAgg9
 z9:=sizeOf9
 v9:=zeroValue9
 t21:=underlying21
 a21:=isAgg21
 z21:=sizeOf21
 v21:=zeroValue21
 t31:=underlying81
 a31:=isAgg81
 z31:=sizeOf81
 v31:=zeroValue81
 t46:=underlying114
 a46:=isAgg114
 z46:=sizeOf114
 v46:=zeroValue114
 t51:=underlying163
 a51:=isAgg163
 z51:=sizeOf163
 v51:=zeroValue163
 t105:=underlying252
 a105:=isAgg252
 z105:=sizeOf252
 v105:=zeroValue252
 t119:=underlying377
 a119:=isAgg377
 z119:=sizeOf377
 t138:=underlying379
 a138:=isAgg379
 z138:=sizeOf379
 v138:=zeroValue379
 t139:=underlying380
 a139:=isAgg380
 z139:=sizeOf380
 v139:=zeroValue380
 t146:=underlying329
 a146:=isAgg329
 z146:=sizeOf329
 v146:=zeroValue329
 g1:=by kernel_rfl
 g3:=by kernel_rfl
 g4:=by kernel_rfl
 i0:=by kernel_rfl
 i3:=by kernel_rfl
 i4:=by kernel_rfl
 i5:=by kernel_rfl
 i9:=by kernel_rfl
 i21:=by kernel_rfl
 i31:=by kernel_rfl
 i46:=by kernel_rfl
 i51:=by kernel_rfl
 i105:=by kernel_rfl
 i138:=by kernel_rfl
 i139:=by kernel_rfl
 i146:=by kernel_rfl
 m1:=by kernel_rfl
 s1_3:=fun w h=>Go.Proofs.cell_of_shapedOpen_int (zero:=#[.int .i64 0]) (t:=3) h (of_decide_eq_true (by kernel_rfl)) (by kernel_rfl) rfl (by kernel_rfl) (by kernel_rfl) underlying3
 m3:=by kernel_rfl
 m4:=by kernel_rfl }
def Tryz.lays264_ren:Go.Shelf.Ren:=⟨fun | 264=>306 | n=>n,fun | 53=>165 | 46=>114 | n=>n,fun | n=>n⟩
theorem Tryz.lays264:Go.Proofs.Lays.n264 Tryz.prog Tryz.lays264_ren:= {
 mixed:=by kernel_rfl
 f264:=func306.trans (congrArg some (by kernel_rfl))
 t46:=underlying114
 a46:=isAgg114
 z46:=sizeOf114
 v46:=zeroValue114
 t53:=underlying165
 a53:=isAgg165
 z53:=sizeOf165
 v53:=zeroValue165 }
open Go.RowKit Go.Lib in
theorem Tryz.bits_Mul64 (x y:Nat) (hx:x<18446744073709551616) (hy:y<18446744073709551616) (w:World) :
 Calls Tryz.prog 306 #[.int .u64 x,.int .u64 y] w fun e w'=>e= .returned (.tuple #[.int .u64 ((x * y / 18446744073709551616:Nat):Int),.int .u64 ((x * y % 18446744073709551616:Nat):Int)])∧w'=w:=Any.bits_Mul64 Tryz.lays264 x y hx hy w
def Tryz.growT_ren:Go.Shelf.Ren:=⟨fun | 4=>109 | n=>n,fun | 22=>22 | 25=>27 | 3=>3 | 4=>4 | 9=>9 | 20=>20 | 0=>0 | n=>n,fun | n=>n⟩
theorem Tryz.growT:Go.Proofs.Lays8.n4 Tryz.prog Tryz.growT_ren:= {
 mixed:=by kernel_rfl
 f4:=⟨Tryz.f109.name,by decide,func109.trans (congrArg some (by kernel_rfl))⟩
 t0:=underlying0
 a0:=isAgg0
 z0:=sizeOf0
 v0:=zeroValue0
 t3:=underlying3
 a3:=isAgg3
 z3:=sizeOf3
 v3:=zeroValue3
 t4:=underlying4
 a4:=isAgg4
 z4:=sizeOf4
 v4:=zeroValue4
 t9:=underlying9
 a9:=isAgg9
 z9:=sizeOf9
 v9:=zeroValue9
 t20:=underlying20
 a20:=isAgg20
 z20:=sizeOf20
 v20:=zeroValue20
 t22:=underlying22
 a22:=isAgg22
 z22:=sizeOf22
 v22:=zeroValue22 }
end Go.Proofs
namespace Go.Proofs.YtcjfagnlmlkedaaGreatDoor
open Go.Proofs.Tryz
open Go.RowKit
structure Env (w:World):Prop where
 sx:∃ tp p,World.var? Tryz.prog w "strconv.ErrSyntax" =some #[.iface tp p]
 rg:∃ tp p,World.var? Tryz.prog w "strconv.ErrRange" =some #[.iface tp p]
 ten:Lib.TabIs Tryz.prog w "internal/strconv.uint64pow10" .u64 Lib.pow10Tab
 big:8≤w.heap.size
theorem Env.below {w w':World} (h:Env w) (hb:Below w.heap.size w w'):Env w' :=
 have hg:=h.big
 ⟨h.sx.imp fun _ ⟨p,e⟩=>⟨p,var?_below hb (g:=4) (by kernel_rfl) (by omega) e⟩,h.rg.imp fun _ ⟨p,e⟩=>⟨p,var?_below hb (g:=5) (by kernel_rfl) (by omega) e⟩,
   var?_below hb (g:=1) (by kernel_rfl) (by omega) h.ten,zE hg hb.size⟩
theorem Env.at_ {W:World} (h:Env W) (t:Later W):Env t.w:=h.below t.b
theorem atoi_any (s:Str) (hs:s.size≤281474976710656) (w:World) (E:Env w):Calls Tryz.prog 201 #[.string s] w fun e w' =>
 ((∃ v,Lib.atoiAll s.data.toList= .ok v∧e= .returned (.tuple #[.int .i64 v,.nilIface]))∨((∀ v,Lib.atoiAll s.data.toList≠ .ok v)∧∃ v t p,e= .returned (.tuple #[.int .i64 v,.iface t p])))∧Below w.heap.size w w':=by
 cases h:Lib.atoiAll s.data.toList
 case ok v =>
  refine (Tryz.strconv_Atoi_ok s (by omega) v h w).mono ?_;rintro e w' ⟨rfl,rfl | ⟨t,rfl⟩⟩
  · exact ⟨.inl ⟨v,rfl,rfl⟩,zB _ _⟩
  · exact ⟨.inl ⟨v,rfl,rfl⟩,Lib.bytesWorld_below _ _ _⟩
 case range =>
  obtain ⟨tp,p,hv⟩:=E.rg;refine (Tryz.strconv_Atoi_range_var s hs h tp p w hv).mono ?_;rintro e w' ⟨N,rfl,_,_,hb⟩;exact ⟨.inr ⟨fun v=>by simp,_,_,_,rfl⟩,hb⟩
 obtain ⟨tp,p,hv⟩:=E.sx;refine (Go.Proofs.Any.strconv_Atoi_syntax_var Tryz.laysC172 s hs h tp p w hv).mono ?_;rintro e w' ⟨N,rfl,_,_,hb⟩;exact ⟨.inr ⟨fun v=>by simp,_,_,_,rfl⟩,hb⟩
theorem kHP (n:Int) (h0: -9223372036854775808≤n) (h1:n≤9223372036854775807) (w:World) (E:Env w):Calls Tryz.prog 21 #[.int .i64 n] w fun e w' =>
 e= .returned (.string ⟨(Lib.itoa n).toArray⟩)∧Below w.heap.size w w':=by
 refine (Tryz.strconv_Itoa n h0 h1 w E.ten).mono ?_;rintro e w' ⟨rfl,k,os,rfl⟩;exact ⟨rfl,Lib.below_grow _ _ (zR _) _ _⟩
def kAT (c:Int):Bool:=decide (48≤c∧c≤57)
def kBA (c:Int):Bool:=decide (97≤c∧c≤122)
def kAZ (s:Str):Bool :=
 if bt s 0=95 then decide (2≤s.size∧s.size≤10∧bt s 1≠48) && (List.range s.size).all (fun i=>i==0 || kAT (bt s i))
 else decide (1≤s.size∧s.size≤30) && (List.range s.size).all (fun i=>kBA (bt s i) || (i != 0 && kAT (bt s i)))
theorem digits_back:∀ (t:List UInt8),t≠[]→(∀ c ∈ t,48≤c.toNat∧c.toNat≤57)→(∀ c,t[0]? =some c→c.toNat≠48)→∃ n:Nat,0<n∧Lib.decFrom 0 t=some n∧Lib.decDigits n=t:=by
 have app:∀ (t:List UInt8) (a m:Nat) (c:UInt8),Lib.decFrom a t=some m→48≤c.toNat∧c.toNat≤57→Lib.decFrom a (t++[c])=some (m * 10+(c.toNat - 48)):=by
  intro t
  induction t with
  | nil=>intro a m c h hc;simp [Lib.decFrom] at h;subst h;simp [Lib.decFrom,Lib.digitVal,hc]
  | cons x t ih =>
    intro a m c h hc;rw [List.cons_append];simp only [Lib.decFrom] at h ⊢;cases hx:Lib.digitVal x with
    | none=>rw [hx] at h;cases h
    | some d=>rw [hx] at h;exact ih _ _ _ h hc
 have key:∀ (r:List UInt8),r≠[]→(∀ c ∈ r,48≤c.toNat∧c.toNat≤57)→(∀ c,r.reverse[0]? =some c→c.toNat≠48)→∃ n:Nat,0<n∧Lib.decFrom 0 r.reverse=some n∧Lib.decDigits n=r.reverse:=by
  intro r
  induction r with
  | nil=>intro h;exact absurd rfl h
  | cons c r ih =>
    intro _ hd h0;have hc:=hd c (zM ..);by_cases hr:r=[]
    · subst hr
      have h9:=h0 c rfl;refine ⟨c.toNat - 48,by omega,?_,?_⟩
      · show Lib.decFrom 0 [c]=_
        simp [Lib.decFrom,Lib.digitVal,hc]
      · rw [Lib.decDigits_one (by omega),show 48+(c.toNat - 48)=c.toNat by omega]
        simp
    · obtain ⟨n,h1,h2,h3⟩:=ih hr (fun x hx=>hd x (zO _ hx)) (fun x hx=>h0 x (by
       rw [List.reverse_cons,List.getElem?_append_left]
       · exact hx
       · rw [List.length_reverse];exact List.length_pos_iff.2 hr))
      refine ⟨n * 10+(c.toNat - 48),by omega,?_,?_⟩
      · rw [List.reverse_cons];exact app _ _ _ _ h2 hc
      · rw [Lib.decDigits,dif_neg (by omega),show (n * 10+(c.toNat - 48)) / 10=n by omega,h3,show 48+(n * 10+(c.toNat - 48)) % 10=c.toNat by omega,List.reverse_cons]
        simp
 intro t h1 h2 h3;have:=key t.reverse (by simpa using h1) (fun c hc=>h2 c (List.mem_reverse.1 hc)) (by rw [List.reverse_reverse];exact h3)
 rwa [List.reverse_reverse] at this
theorem dec_digit (u:Nat):∀ c ∈ Lib.decDigits u,48≤c.toNat∧c.toNat≤57:=by
 induction u using Nat.strongRecOn with
 | _ u ih =>
   intro c hc;rw [Lib.decDigits] at hc
   split at hc
   · obtain rfl:=List.mem_singleton.1 hc;rw [UInt8.toNat_ofNat'];omega
   · rcases List.mem_append.1 hc with g | g
     · exact ih _ (by omega) c g
     · obtain rfl:=List.mem_singleton.1 g;rw [UInt8.toNat_ofNat'];omega
theorem dec_head (u:Nat) (h:0<u):∃ c r,Lib.decDigits u=c :: r∧c.toNat≠48:=by
 induction u using Nat.strongRecOn with
 | _ u ih =>
   rw [Lib.decDigits]
   split
   · exact ⟨_,[],rfl,by rw [UInt8.toNat_ofNat'];omega⟩
   · obtain ⟨c,r,e,hc⟩:=ih (u / 10) (by omega) (by omega)
     exact ⟨c,_,by rw [e];rfl,hc⟩
theorem under (t:List UInt8):(t.length≤9∧∃ v,Lib.atoiAll t= .ok v∧0<v∧Lib.itoa v=t) ↔ (1≤t.length∧t.length≤9∧(∀ c ∈ t,48≤c.toNat∧c.toNat≤57)∧(∀ c,t[0]? =some c→c.toNat≠48)):=by
 constructor
 · rintro ⟨h9,v,_,hv,hi⟩
   unfold Lib.itoa at hi;rw [if_neg (by omega)] at hi;obtain ⟨c,r,e,hc⟩:=dec_head v.toNat (by omega);refine ⟨by rw [← hi,e];simp,h9,by rw [← hi];exact dec_digit _,fun x hx=>?_⟩;rw [← hi,e] at hx;simp at hx;subst hx;exact hc
 · rintro ⟨h1,h9,hd,h0⟩
   obtain ⟨n,hn,h2,h3⟩:=digits_back t (by intro e;rw [e] at h1;simp at h1) hd h0;refine ⟨h9,n,?_,by omega,by unfold Lib.itoa;rw [if_neg (by omega)];simpa using h3⟩;rw [Lib.atoiAll_short t (by omega)];cases t with
   | nil=>simp at h1
   | cons c r =>
     have hc:=hd c (zM ..);have q1:¬ c=45:=by rintro rfl;simp at hc
     have q2:¬ c=43:=by rintro rfl;simp at hc
     simp [Lib.atoi,q1,q2,Lib.decNat,h2,Lib.NumEnd.ofOption]
theorem kJD (s:Str) (k:Nat) (c:UInt8) (h:s.data.toList[k]? =some c):bt s k=(c.toNat:Int):=by
 unfold bt nb;rw [zD,List.getElem?_map,h];rfl
theorem at_bt (s:Str) (k:Nat) (h:k<s.size):∃ c,s.data.toList[k]? =some c∧bt s k=(c.toNat:Int):=by
 have hl:k<s.data.toList.length:=h;exact ⟨s.data.toList[k],zG hl,kJD s k _ (zG hl)⟩
theorem pre_under (s:Str):Lib.hasPrefix s.data.toList [95]=decide (bt s 0=95):=by
 unfold Lib.hasPrefix bt nb;cases s.data.toList with
 | nil=>simp
 | cons c r => 
   simp only [List.isPrefixOf,List.map_cons,List.getD_cons_zero,Bool.and_true];by_cases h:c=95
   · subst h;rfl
   · rw [beq_eq_false_iff_ne.2 (Ne.symm h),Eq.comm,decide_eq_false_iff_not]
     intro q;exact h (UInt8.toNat_inj.1 (by have:(95:UInt8).toNat=95:=rfl;omega))
def tail1 (s:Str):Str:=s.extract 1 s.size
theorem tail1_list (s:Str):(tail1 s).data.toList=s.data.toList.drop 1:=by
 unfold tail1;rw [ByteArray.data_extract,Array.toList_extract]
 show (s.data.toList.drop 1).take (s.size - 1)=_
 rw [zT (by rw [List.length_drop];exact zR _)]
theorem name_under (s:Str) (h:bt s 0=95):kAZ s=true ↔ s.size≤10∧∃ v,Lib.atoiAll (tail1 s).data.toList= .ok v∧0<v∧Lib.itoa v=(tail1 s).data.toList:=by
 have hpos:0<s.size:=by
  rcases Nat.eq_zero_or_pos s.size with g | g
  · unfold bt nb at h
    rw [show s.data.toList=[] from zL g] at h;simp at h
  · exact g
 rw [tail1_list];have hlen:(s.data.toList.drop 1).length=s.size - 1:=by rw [List.length_drop];rfl
 have hu:=under (s.data.toList.drop 1);rw [hlen] at hu;have e1:(s.size≤10∧∃ v,Lib.atoiAll (s.data.toList.drop 1)= .ok v∧0<v∧Lib.itoa v=s.data.toList.drop 1) ↔ (s.size - 1≤9∧∃ v,Lib.atoiAll (s.data.toList.drop 1)= .ok v∧0<v∧Lib.itoa v=s.data.toList.drop 1):=and_congr_left fun _=>by omega
 rw [e1,hu];clear e1 hu hlen;unfold kAZ;rw [if_pos h,zA,decide_eq_true_eq,List.all_eq_true]
 constructor
 · rintro ⟨⟨h2,h10,h1⟩,ha⟩
   refine ⟨by omega,by omega,fun c hc=>?_,fun c hc=>?_⟩
   · obtain ⟨i,hi⟩:=List.mem_iff_getElem?.1 hc
     rw [List.getElem?_drop] at hi
     have hlt:1+i<s.size:=by
      rcases zF (1+i) s.data.toList.length with q | q
      · exact q
      · rw [List.getElem?_eq_none q] at hi;cases hi
     have:=ha (1+i) (List.mem_range.2 hlt);simp only [Bool.or_eq_true,beq_iff_eq,kAT,decide_eq_true_eq] at this;rw [kJD s _ c hi] at this;omega
   · rw [List.getElem?_drop] at hc
     rw [kJD s 1 c hc] at h1;omega
 · rintro ⟨h2,h9,ha,h0⟩
   refine ⟨⟨by omega,by omega,?_⟩,fun i hi=>?_⟩
   · obtain ⟨c,hc,e⟩:=at_bt s 1 (by omega)
     rw [e];have:=h0 c (by rw [List.getElem?_drop];exact hc);omega
   · have hi:=List.mem_range.1 hi
     rcases Nat.eq_zero_or_pos i with q | q
     · subst q;rfl
     · obtain ⟨c,hc,e⟩:=at_bt s i hi
       have:=ha c (List.mem_iff_getElem?.2 ⟨i - 1,by rw [List.getElem?_drop,show 1+(i - 1)=i by omega];exact hc⟩);simp only [Bool.or_eq_true,kAT,decide_eq_true_eq];exact .inr (by rw [e];omega)
theorem tail1_size (s:Str):(tail1 s).size=s.size - 1:=by
 show (tail1 s).data.toList.length=_
 rw [tail1_list,List.length_drop];rfl
theorem kHN (s:Str) (h:bt s 0≠95):kAZ s=(decide (1≤s.size∧s.size≤30) && (List.range s.size).all (fun i=>kBA (bt s i) || (i != 0 && kAT (bt s i)))):=by
 unfold kAZ;rw [if_neg h]
theorem pre_yes (s:Str) (h:bt s 0=95) (w:World):Calls Tryz.prog 163 #[.string s,.string ⟨#[95]⟩] w fun e w'=>e= .returned (.bool true)∧w=w':=by
 have:=Tryz.strings_HasPrefix s ⟨#[95]⟩ w;rw [show Lib.hasPrefix s.data.toList (ByteArray.mk #[95]).data.toList=true from (pre_under s).trans (decide_eq_true h)] at this;exact this.mono fun _ _ h=>⟨h.1,h.2.symm⟩
theorem pre_no (s:Str) (h:bt s 0≠95) (w:World):Calls Tryz.prog 163 #[.string s,.string ⟨#[95]⟩] w fun e w'=>e= .returned (.bool false)∧w=w':=by
 have:=Tryz.strings_HasPrefix s ⟨#[95]⟩ w;rw [show Lib.hasPrefix s.data.toList (ByteArray.mk #[95]).data.toList=false from (pre_under s).trans (decide_eq_false h)] at this;exact this.mono fun _ _ h=>⟨h.1,h.2.symm⟩
theorem kHU {n k:Nat} {p:Nat→Bool} (hk:k<n) (h:p k=false):(List.range n).all p=false:=by
 rw [List.all_eq_false];exact ⟨k,List.mem_range.2 hk,by rw [h];decide⟩
theorem kDP {n:Nat} {p:Nat→Bool} (h:∀ i,i<n→p i=true):(List.range n).all p=true:=by
 rw [List.all_eq_true];exact fun i hi=>h i (List.mem_range.1 hi)
theorem linear_Name_under (s:Str) (h95:bt s 0=95) (hs:s.size≤281474976710656) (w:World) (E:Env w):Calls Tryz.prog 122 #[.string s] w fun e w'=>e= .returned (.bool (kAZ s))∧Below w.heap.size w w':=by
 have HU:=hJ (name_under s h95)
 have hpos:1≤s.size:=by
  rcases Nat.eq_zero_or_pos s.size with g | g
  · unfold bt nb at h95
    rw [show s.data.toList=[] from zL g] at h95;simp at h95
  · exact g
 have EE:=hJ E;have HS:=hJ hs;have H95:=hJ h95;clear E h95;go_enter func122,ntmps122
 go_wp2_with fail
 refine (pre_yes s H95.out w).mono ?_;rintro e _ ⟨rfl,rfl⟩
 go_wp2_with fail
 refine (atoi_any (tail1 s) (by rw [tail1_size];omega) _ EE.out).mono ?_;rintro e w1 ⟨⟨v,hv,rfl⟩ | ⟨hv,v,t,p,rfl⟩,hb⟩
 · have E1:=hJ (EE.out.below hb)
   have HV:=hJ hv;have hbd:=hJ (Lib.atoiAll_bounds hv);clear hv;by_cases hv0:0<v
   · have g0:decide (0<v)=true:=decide_eq_true hv0
     by_cases h10:s.size≤10
     · have g1:decide ((s.size:Int)≤10)=true:=decide_eq_true (by omega)
       have HN:Hid (kAZ s=(Lib.itoa v==(ByteArray.extract s 1 s.size).toList)):=hJ (by
        rw [Bool.eq_iff_iff,HU.out,beq_iff_eq,ByteArray.toList_eq];exact ⟨fun ⟨_,v',q1,q2,q3⟩=>by rw [HV.out] at q1;cases q1;exact q3,fun q=>⟨h10,v,HV.out,hv0,q⟩⟩)
       go_wp2_with fail
       refine kAC (by kernel_rfl) (by kernel_rfl) ?_
       repeat (go_big_quiet_step (first | fail | exact Later.call (kHP _ hbd.out.1 hbd.out.2 _ (E1.out.at_ _))))
       refine wpQuiet_nil ?_;rintro _ ⟨t9,rfl⟩
       go_wp2_with fail
       go_ret;exact ⟨by rw [HN.out];rfl,hb.trans (t9.b.mono hb.size)⟩
     · have g1:decide ((s.size:Int)≤10)=false:=decide_eq_false (by omega)
       have HN:Hid (kAZ s=false):=hJ (by rw [Bool.eq_false_iff];exact fun q=>h10 (HU.out.1 q).1)
       go_wp2_with fail
       refine kAC (by kernel_rfl) (by kernel_rfl) ?_
       repeat (go_big_quiet_step (first | fail | exact Later.call (kHP _ hbd.out.1 hbd.out.2 _ (E1.out.at_ _))))
       refine wpQuiet_nil ?_;rintro _ ⟨t9,rfl⟩
       go_wp2_with fail
       go_ret;exact ⟨by rw [HN.out];rfl,hb.trans (t9.b.mono hb.size)⟩
   · have g0:decide (0<v)=false:=decide_eq_false hv0
     have HN:Hid (kAZ s=false):=hJ (by
      rw [Bool.eq_false_iff];rintro q;obtain ⟨_,v',q1,q2,q3⟩:=HU.out.1 q;rw [HV.out] at q1;cases q1;exact hv0 q2)
     go_wp2_with fail
     refine kAC (by kernel_rfl) (by kernel_rfl) ?_
     repeat (go_big_quiet_step (first | fail | exact Later.call (kHP _ hbd.out.1 hbd.out.2 _ (E1.out.at_ _))))
     refine wpQuiet_nil ?_;rintro _ ⟨t9,rfl⟩
     go_wp2_with fail
     go_ret;exact ⟨by rw [HN.out];rfl,hb.trans (t9.b.mono hb.size)⟩
 · have HN:Hid (kAZ s=false):=hJ (by
    rw [Bool.eq_false_iff];rintro q;obtain ⟨_,v',q1,q2,q3⟩:=HU.out.1 q;exact hv v' q1)
   clear hv
   go_wp2_with fail
   refine kAC (by kernel_rfl) (by kernel_rfl) ?_
   repeat (go_big_quiet_step (first | fail | exact Later.call (kHP _ (by decide) (by decide) _ (EE.out.at_ _))))
   refine wpQuiet_nil ?_;rintro _ ⟨t9,rfl⟩
   go_wp2_with fail
   go_ret;exact ⟨by rw [HN.out];rfl,hb.trans (t9.b.mono hb.size)⟩
theorem conv_str (s:Str) (w:World):∃ c w1,(convert 9 169 (.string s)).run Tryz.prog w= .ok (.slice (some ⟨w.heap.size,0,none⟩) s.size c) w1∧(∀ k,k<s.size→w1.cell? ⟨w.heap.size,k,none⟩=some (.int .u8 (bt s k)))∧Below w.heap.size w w1:=by
 refine ⟨_,_,run_bytes_of_string (P:=Tryz.prog) w 9 169 5 s underlying9 underlying169 underlying5,fun i hi=>?_,((zB _ _).drew).alloc (zR _) _⟩;refine (World.cell?_alloc_mark w.drew _ _ _ i).trans ?_;rw [bytesRow_at s _ i hi]
 congr 2
 exact kD5 s i hi
theorem other_stop (s:Str) (h:bt s 0≠95) (k:Nat) (hk:k<s.size) (h1:kBA (bt s k)=false) (h2:k≠0→kAT (bt s k)=false):kAZ s=false:=by
 rw [kHN s h,kHU hk (by rw [h1];rcases Nat.eq_zero_or_pos k with q | q;subst q;rfl;rw [h2 (by omega)];simp),Bool.and_false]
theorem linear_Name_other (s:Str) (h95:bt s 0≠95) (hs:s.size≤281474976710656) (w:World):Calls Tryz.prog 122 #[.string s] w fun e w'=>e= .returned (.bool (kAZ s))∧Below w.heap.size w w':=by
 obtain ⟨c0,w0,hcv,hr,hB0⟩:=conv_str s w;have HR:=hJ hr;have H95:=hJ h95;clear h95 hr;go_enter func122,ntmps122
 go_wp2_with fail
 refine (pre_no s H95.out w).mono ?_;rintro e _ ⟨rfl,rfl⟩
 go_wp2_with fail
 go_loopw [36] (fun i wr=>∃ k:Nat,k≤s.size∧i= .int .i64 k∧Hid (∀ j,j<k→(kBA (bt s j) || (j != 0 && kAT (bt s j)))=true)∧w0=wr) (fun i _=>s.size - (intOf i).toNat)
 case atStart=>exact ⟨0,Nat.zero_le _,rfl,fun j hj=>absurd hj (by omega),rfl⟩
 case round =>
  obtain ⟨k,hk,rfl,HT,rfl⟩:=hrel;by_cases hlt:k<s.size
  · have hc:=HR.out k hlt
    obtain ⟨hb1,hb2⟩:=bt_byte s k;have HStop:=hJ (other_stop s H95.out k hlt)
    have HGo:Hid ((kBA (bt s k) || (k != 0 && kAT (bt s k)))=true→∀ j,j<k+1→(kBA (bt s j) || (j != 0 && kAT (bt s j)))=true):=hJ (fun q j hj=>by
     rcases zF j k with r | r
     · exact HT.out j r
     · obtain rfl:j=k:=by omega
       exact q)
    generalize bt s k=c at *;by_cases a1:97≤c∧c≤122
    · have HG:=hJ (HGo.out (by simp [kBA,a1]))
      obtain ⟨a1,a2⟩:=a1
      go_wp2_with fail
      go_roundw
      case rel=>exact ⟨k+1,by omega,by go_num,HG,trivial⟩
      case measure=>simp [intOf];omega
    · have HL:Hid (kBA c=false):=hJ (by simpa [kBA] using a1)
      have a2:c<97∨122<c:=by omega
      clear a1;by_cases hk0:k=0
      · have HF:=hJ (HStop.out HL.out (fun q=>absurd hk0 q))
        have hkz:((k:Int)==0)=true:=beq_iff_eq.2 (by omega);clear hk0;rcases a2 with a2 | a2
        all_goals
         go_wp2_with fail
         go_ret;exact ⟨by rw [HF.out];rfl,hB0⟩
      · have hkz:((k:Int)==0)=false:=beq_eq_false_iff_ne.2 (by omega)
        have HK:=hJ hk0;clear hk0;by_cases a3:48≤c∧c≤57
        · have HG:=hJ (HGo.out (by simp [HL.out,kAT,a3,HK.out]))
          obtain ⟨a3,a4⟩:=a3;have a5:c<97:=by omega
          clear a2
          go_wp2_with fail
          go_roundw
          case rel=>exact ⟨k+1,by omega,by go_num,HG,trivial⟩
          case measure=>simp [intOf];omega
        · have HF:=hJ (HStop.out HL.out (fun _=>by simpa [kAT] using a3))
          have a4:c<48∨(57<c∧c<97)∨122<c:=by omega
          clear a2 a3;rcases a4 with a4 | ⟨a4,a5⟩ | a4
          all_goals
           go_wp2_with fail
           go_ret;exact ⟨by rw [HF.out];rfl,hB0⟩
  · obtain rfl:k=s.size:=by omega
    have HV:Hid (kAZ s=decide (1≤s.size∧s.size≤30)):=hJ (by rw [kHN s H95.out,kDP HT.out,Bool.and_true]);by_cases h0:s.size=0
    · have he:s.toList.isEmpty=true:=by rw [ByteArray.toList_eq,show s.data.toList=[] from zL h0];rfl
      go_wp2_with fail
      go_ret;exact ⟨by rw [HV.out,decide_eq_false (by omega)];rfl,hB0⟩
    · have he:s.toList.isEmpty=false:=by
       rw [ByteArray.toList_eq,List.isEmpty_eq_false_iff];exact fun q=>h0 (by show s.data.toList.length=0;rw [q];rfl)
      go_wp2_with fail
      go_ret;exact ⟨by rw [HV.out,← decide_eq_decide.2 (show (s.size:Int)≤30 ↔ 1≤s.size∧s.size≤30 by omega)];rfl,hB0⟩
theorem kBR (s:Str) (hs:s.size≤281474976710656) (w:World) (E:Env w):Calls Tryz.prog 122 #[.string s] w fun e w'=>e= .returned (.bool (kAZ s))∧Below w.heap.size w w':=by
 by_cases h:bt s 0=95
 · exact linear_Name_under s h hs w E
 · exact linear_Name_other s h hs w
def kCD (c:Int):Bool:=decide (-1000000≤c∧c≤1000000)
def kFI (l:List Coef) (i:Nat):Bool:=kAZ (l.getD i default).v && (l.getD i default).c != 0 && kCD (l.getD i default).c && (i==0 || slt (l.getD (i - 1) default).v (l.getD i default).v)
def kGQ (l:List Coef):Bool:=(List.range l.length).all (kFI l)
def kAB (x:Lin):Bool:=kGQ x.terms && kCD x.const && decide (x.terms.length≤12)
theorem lift {P:Program} {f:FuncId} {args:Array Value} {W w:World} {A:Ending→World→Prop} (hb:Below W.heap.size W w) (h:Calls P f args w fun e w'=>A e w'∧Below w.heap.size w w'):Calls P f args w fun e w'=>A e w'∧Below W.heap.size W w' :=
 h.mono fun e w' ⟨he,hb'⟩=>⟨he,hb.trans (hb'.mono hb.size)⟩
theorem kAE {W:World} {a:Addr} {v:Value} (h:W.cell? a=some v):∀ w',Below W.heap.size W w'→w'.cell? a=some v:=fun w' hb=>by rw [hb.cell (kB5 h)];exact h
theorem kFA {α :Type} [Inhabited α] {l:List α} {k:Nat} (h:k<l.length):l[k]? =some (l.getD k default):=by
 rw [zD,zG h];rfl
theorem kAM {α :Type} [Inhabited α] {l:List α} {k:Nat} (h:k<l.length):l.getD k default ∈ l:=List.mem_iff_getElem?.2 ⟨k,kFA h⟩
theorem Sl.coef {S:Blk} {w:World} {b off n c:Nat} {l:List Coef} (h:Sl kA7 S w (some ⟨b,off,none⟩) n c l) (k:Nat) (hk:k<n) :
 w.cell? ⟨b,off+k * 2,none⟩=some (.string (l.getD k default).v)∧w.cell? ⟨b,off+k * 2+1,none⟩=some (.int .i64 (l.getD k default).c):=by
 obtain ⟨cs,hr,hc⟩:=h.cells k _ (kFA (by rw [h.len];exact hk));obtain rfl:cs=_:=hr;exact ⟨hc 0 _ rfl,hc 1 _ rfl⟩
theorem kE5 {x:Lin} {k:Nat} (hk:k<x.terms.length) (h:kFI x.terms k=false):kAB x=false:=by
 unfold kAB kGQ;rw [kHU hk h];rfl
theorem kDZ (n:Int) (w:World):Calls Tryz.prog 123 #[.int .i64 n] w fun e w'=>e= .returned (.bool (kCD n))∧w=w':=by
 unfold kCD;by_cases h0: -1000000≤n <;> by_cases h1:n≤1000000
 all_goals
  go_enter func123,ntmps123
  go_wp2_with fail
  go_ret;exact ⟨by simp [h0,h1],rfl⟩
def szL (x:Lin):Prop:=∀ t ∈ x.terms,t.v.size≤2000000
theorem kCM {S:Blk} (x:Lin) (a:Option Addr) (n c:Nat) (w:World) (h:Sl kA7 S w a n c x.terms) (hz:szL x) (E:Env w) :
 Calls Tryz.prog 66 #[.agg #[.int .i64 x.const,.slice a n c]] w fun e w'=>e= .returned (.bool (kAB x))∧Below w.heap.size w w':=by
 have H:=hJ h;have hn:n≤9223372036854775807:=by have:=h.cap;have:=h.max;unfold maxLen at this;omega
 have HZ:=hJ hz;have EE:=hJ E;clear h hz E;go_enter func66,ntmps66
 go_wp2_with fail
 have B0:Hid (Below w.heap.size w (w.alloc (.cells #[.int .i64 x.const,.slice a n c] 40))):=hJ ((zB _ _).alloc (zR _) _);have hbox:(w.alloc (.cells #[.int .i64 x.const,.slice a n c] 40)).cell? ⟨w.heap.size,1,none⟩=some (.slice a n c):=by simp [go_sem]
 have hbox0:(w.alloc (.cells #[.int .i64 x.const,.slice a n c] 40)).cell? ⟨w.heap.size,0,none⟩=some (.int .i64 x.const):=by simp [go_sem]
 generalize (w.alloc (.cells #[.int .i64 x.const,.slice a n c] 40))=W at *;have H0:=hJ (H.out.below B0.out);have E0:=hJ (EE.out.below B0.out)
 go_loopw [8] (fun i wr=>∃ k:Nat,k≤n∧i= .int .i64 k∧Hid (∀ j,j<k→kFI x.terms j=true)∧Below W.heap.size W wr) (fun i _=>n - (intOf i).toNat)
 case atStart=>exact ⟨0,Nat.zero_le _,rfl,fun j hj=>absurd hj (by omega),zB _ _⟩
 case round =>
  obtain ⟨k,hk,rfl,HT,hB⟩:=hrel;by_cases hlt:k<n
  · obtain ⟨b,off,rfl,hbW,_⟩:=H0.out.form k hlt
    have HR:=hJ (H0.out.below hB);obtain ⟨c0,c1⟩:=HR.out.coef k hlt;have HK:Hid (k<x.terms.length):=hJ (by rw [H.out.len];exact hlt);have HTK:Hid (kFI x.terms k=(kAZ (x.terms.getD k default).v && (x.terms.getD k default).c != 0 && kCD (x.terms.getD k default).c && (k==0 || slt (x.terms.getD (k - 1) default).v (x.terms.getD k default).v))):=hJ rfl;have hzt:(x.terms.getD k default).v.size≤281474976710656:=zE (HZ.out _ (kAM HK.out)) (by decide);generalize x.terms.getD k default=t at *
    go_wp2_with (fail)
    have hx1:=(kAE hbox _ (hB.alloc hB.size (.cells #[.string t.v,.int .i64 t.c] 44)))
    have hv0:(wr.alloc (.cells #[.string t.v,.int .i64 t.c] 44)).cell? ⟨wr.heap.size,0,none⟩=some (.string t.v):=by simp [go_sem]
    have hv1:(wr.alloc (.cells #[.string t.v,.int .i64 t.c] 44)).cell? ⟨wr.heap.size,1,none⟩=some (.int .i64 t.c):=by simp [go_sem]
    have hB2:=hB.alloc hB.size (.cells #[.string t.v,.int .i64 t.c] 44);clear c0 c1 hbox hbox0;generalize (wr.alloc (.cells #[.string t.v,.int .i64 t.c] 44))=w2 at *;have hv0:=Later.cell hv0;have hv1:=Later.cell hv1;have hx1:=Later.cell hx1;clear hB;have HB2:=hJ hB2;have E2:=hJ (E0.out.below HB2.out);clear hB2;by_cases hnm:kAZ t.v=true
    · by_cases hc:t.c=0
      · have hc':(t.c==0)=true:=by rw [hc];rfl
        have HF:Hid (kAB x=false):=hJ (kE5 HK.out (by rw [HTK.out,hnm,hc];rfl));clear hc;refine kAC (by kernel_rfl) (by kernel_rfl) ?_
        repeat (go_big_quiet_step (first | fail | exact Later.call (kBR _ hzt _ (E2.out.at_ _)) | exact Later.same (kDZ _ _)))
        refine wpQuiet_nil ?_;rintro _ ⟨t9,rfl⟩
        go_wp2_with fail
        go_ret;exact ⟨by rw [HF.out];rfl,B0.out.trans ((HB2.out.trans (t9.b.mono HB2.out.size)).mono B0.out.size)⟩
      · have hc':(t.c==0)=false:=beq_eq_false_iff_ne.2 hc
        have hcn:(t.c != 0)=true:=bne_iff_ne.2 hc;by_cases hs:kCD t.c=true
        · cases k with
          | zero =>
            have HO:Hid (kFI x.terms 0=true):=hJ (by rw [HTK.out,hnm,hcn,hs];rfl);clear hc hcn;refine kAC (by kernel_rfl) (by kernel_rfl) ?_
            repeat (go_big_quiet_step (first | fail | exact Later.call (kBR _ hzt _ (E2.out.at_ _)) | exact Later.same (kDZ _ _)))
            refine wpQuiet_nil ?_;rintro _ ⟨t9,rfl⟩
            go_wp2_with fail
            go_roundw
            case rel=>exact ⟨1,by omega,by go_num,hJ (fun j hj=>(by omega:j=0) ▸ HO.out),HB2.out.trans (t9.b.mono HB2.out.size)⟩
            case measure=>simp [intOf];omega
          | succ k =>
            have hp:=Later.cell ((H0.out.below HB2.out).coef k (by omega)).1;have hk0:(0:Int)<((k+1:Nat):Int):=by omega
            have hki:(((k+1:Nat):Int) - 1)=(k:Int):=by omega
            simp only [Nat.add_sub_cancel] at HTK;generalize x.terms.getD k default=p at *;by_cases ho:Op.bytesLess p.v.toList t.v.toList=true
            · have HO:Hid (kFI x.terms (k+1)=true):=hJ (by rw [HTK.out,hnm,hcn,hs];simpa [slt] using ho)
              clear hc hcn;refine kAC (by kernel_rfl) (by kernel_rfl) ?_
              repeat (go_big_quiet_step (first | fail | exact Later.call (kBR _ hzt _ (E2.out.at_ _)) | exact Later.same (kDZ _ _)))
              refine wpQuiet_nil ?_;rintro _ ⟨t9,rfl⟩
              go_wp2_with fail
              go_roundw
              case rel=>exact ⟨k+1+1,by omega,by go_num,hJ (fun j hj=>by
               rcases zF j (k+1) with q | q
               · exact HT.out j q
               · obtain rfl:j=k+1:=by omega
                 exact HO.out),HB2.out.trans (t9.b.mono HB2.out.size)⟩
              case measure=>simp [intOf];omega
            · have ho:Op.bytesLess p.v.toList t.v.toList=false:=by simpa using ho
              have HF:Hid (kAB x=false):=hJ (kE5 HK.out (by rw [HTK.out,hnm,hcn,hs];simpa [slt] using ho));clear hc hcn;refine kAC (by kernel_rfl) (by kernel_rfl) ?_
              repeat (go_big_quiet_step (first | fail | exact Later.call (kBR _ hzt _ (E2.out.at_ _)) | exact Later.same (kDZ _ _)))
              refine wpQuiet_nil ?_;rintro _ ⟨t9,rfl⟩
              go_wp2_with fail
              go_ret;exact ⟨by rw [HF.out];rfl,B0.out.trans ((HB2.out.trans (t9.b.mono HB2.out.size)).mono B0.out.size)⟩
        · have hs:kCD t.c=false:=by simpa using hs
          have HF:Hid (kAB x=false):=hJ (kE5 HK.out (by rw [HTK.out,hnm,hcn,hs];rfl));clear hc hcn;refine kAC (by kernel_rfl) (by kernel_rfl) ?_
          repeat (go_big_quiet_step (first | fail | exact Later.call (kBR _ hzt _ (E2.out.at_ _)) | exact Later.same (kDZ _ _)))
          refine wpQuiet_nil ?_;rintro _ ⟨t9,rfl⟩
          go_wp2_with fail
          go_ret;exact ⟨by rw [HF.out];rfl,B0.out.trans ((HB2.out.trans (t9.b.mono HB2.out.size)).mono B0.out.size)⟩
    · have hnm:kAZ t.v=false:=by simpa using hnm
      have HF:Hid (kAB x=false):=hJ (kE5 HK.out (by rw [HTK.out,hnm];rfl));refine kAC (by kernel_rfl) (by kernel_rfl) ?_
      repeat (go_big_quiet_step (first | fail | exact Later.call (kBR _ hzt _ (E2.out.at_ _)) | exact Later.same (kDZ _ _)))
      refine wpQuiet_nil ?_;rintro _ ⟨t9,rfl⟩
      go_wp2_with fail
      go_ret;exact ⟨by rw [HF.out];rfl,B0.out.trans ((HB2.out.trans (t9.b.mono HB2.out.size)).mono B0.out.size)⟩
  · obtain rfl:k=n:=by omega
    have HV:Hid (kAB x=(kCD x.const && decide (x.terms.length≤12))):=hJ (by
     unfold kAB kGQ;rw [H.out.len,kDP HT.out];rfl)
    have hx0:=kAE hbox0 _ hB;have hx1:=kAE hbox _ hB;have HL:=hJ H.out.len;by_cases hs:kCD x.const=true
    · go_wp2_with fail
      refine (kDZ _ _).mono ?_;rintro e w5 ⟨rfl,rfl⟩
      go_wp2_with fail
      go_ret;exact ⟨by rw [HV.out,hs,HL.out,Bool.true_and,← decide_eq_decide.2 (show ((k:Int)≤12 ↔ k≤12) by omega)];rfl,B0.out.trans (hB.mono B0.out.size)⟩
    · have hs:kCD x.const=false:=by simpa using hs
      go_wp2_with fail
      refine (kDZ _ _).mono ?_;rintro e w5 ⟨rfl,rfl⟩
      go_wp2_with fail
      go_ret;exact ⟨by rw [HV.out,hs];rfl,B0.out.trans (hB.mono B0.out.size)⟩
theorem kF6 (c:Int) (w:World):Calls Tryz.prog 211 #[.int .u8 c] w fun e w'=>e= .returned (.bool (kAT c))∧w=w':=by
 unfold kAT;by_cases h0:48≤c <;> by_cases h1:c≤57
 all_goals
  go_enter func211,ntmps211
  go_wp2_with fail
  go_ret;exact ⟨by simp [h0,h1],rfl⟩
theorem kEY (c:Int) (w:World):Calls Tryz.prog 212 #[.int .u8 c] w fun e w'=>e= .returned (.bool (kBA c))∧w=w':=by
 unfold kBA;by_cases h0:97≤c <;> by_cases h1:c≤122
 all_goals
  go_enter func212,ntmps212
  go_wp2_with fail
  go_ret;exact ⟨by simp [h0,h1],rfl⟩
theorem kCB (n:Int) (w:World):Calls Tryz.prog 138 #[.int .i64 n] w fun e w'=>e= .returned (.bool (kCD n))∧w=w':=by
 unfold kCD;by_cases h0: -1000000≤n <;> by_cases h1:n≤1000000
 all_goals
  go_enter func138,ntmps138
  go_wp2_with fail
  go_ret;exact ⟨by simp [h0,h1],rfl⟩
theorem kIZ (s:Str) (h:s.size=0∨30<s.size):kAZ s=false:=by
 unfold kAZ
 split
 · rw [decide_eq_false (by omega)];rfl
 · rw [decide_eq_false (by omega)];rfl
theorem name_yes (s:Str) (h:bt s 0=95):kAZ s=(decide (2≤s.size∧s.size≤10∧bt s 1≠48) && (List.range s.size).all (fun i=>i==0 || kAT (bt s i))):=by
 unfold kAZ;rw [if_pos h]
theorem yes_stop (s:Str) (h:bt s 0=95) (k:Nat) (hk:k<s.size) (h0:0<k) (h2:kAT (bt s k)=false):kAZ s=false:=by
 rw [name_yes s h,kHU hk (by rw [h2,beq_eq_false_iff_ne.2 (by omega:k≠0)];rfl),Bool.and_false]
theorem kCO (s:Str) (w:World) (hsz:s.size≤281474976710656):Calls Tryz.prog 139 #[.string s] w fun e w'=>e= .returned (.bool (kAZ s))∧w=w':=by
 by_cases h0:s.size=0
 · have HF:=hJ (kIZ s (.inl h0))
   go_enter func139,ntmps139
   go_wp2_with fail
   go_ret;exact ⟨by rw [HF.out];rfl,rfl⟩
 by_cases h30:30<s.size
 · have HF:=hJ (kIZ s (.inr h30))
   have q1:decide (30<(s.size:Int))=true:=decide_eq_true (by omega);have q2:((s.size:Int)==0)=false:=beq_eq_false_iff_ne.2 (by omega);go_enter func139,ntmps139
   go_wp2_with fail
   go_ret;exact ⟨by rw [HF.out];rfl,rfl⟩
 have q1:decide (30<(s.size:Int))=false:=decide_eq_false (by omega);have q2:((s.size:Int)==0)=false:=beq_eq_false_iff_ne.2 (by omega);have hp0:0<s.size:=by omega
 have g0:=kD5 s 0 hp0;by_cases h95:bt s 0=95
 · have HY:=hJ (name_yes s h95)
   have HS:=hJ (yes_stop s h95);have g95:(bt s 0==95)=true:=beq_iff_eq.2 h95;rw [h95] at g0;clear h95;by_cases h2:s.size<2
   · have HF:Hid (kAZ s=false):=hJ (by rw [HY.out,decide_eq_false (by omega)];rfl)
     have r1:decide ((s.size:Int)<2)=true:=decide_eq_true (by omega);go_enter func139,ntmps139
     go_wp2_with fail
     go_ret;exact ⟨by rw [HF.out];rfl,rfl⟩
   have r1:decide ((s.size:Int)<2)=false:=decide_eq_false (by omega);by_cases h10:10<s.size
   · have HF:Hid (kAZ s=false):=hJ (by rw [HY.out,decide_eq_false (by omega)];rfl)
     have r2:decide (10<(s.size:Int))=true:=decide_eq_true (by omega);go_enter func139,ntmps139
     go_wp2_with fail
     go_ret;exact ⟨by rw [HF.out];rfl,rfl⟩
   have r2:decide (10<(s.size:Int))=false:=decide_eq_false (by omega);have g1:=kD5 s 1 (by omega);by_cases h48:bt s 1=48
   · have HF:Hid (kAZ s=false):=hJ (by rw [HY.out,decide_eq_false (by omega)];rfl)
     rw [h48] at g1;clear h48;go_enter func139,ntmps139
     go_wp2_with fail
     go_ret;exact ⟨by rw [HF.out];rfl,rfl⟩
   have r3:(bt s 1==48)=false:=beq_eq_false_iff_ne.2 h48;have HY2:Hid (kAZ s=(List.range s.size).all (fun i=>i==0 || kAT (bt s i))):=hJ (by rw [HY.out,decide_eq_true (by omega)];rfl);clear h48;go_enter func139,ntmps139
   go_wp2_with fail
   go_loopw [3] (fun i wr=>∃ k:Nat,1≤k∧k≤s.size∧i= .int .i64 k∧Hid (∀ j,j<k→(j==0 || kAT (bt s j))=true)∧w=wr) (fun i _=>s.size - (intOf i).toNat)
   case atStart=>exact ⟨1,by omega,by omega,rfl,hJ (fun j hj=>by rw [show j=0 by omega];rfl),rfl⟩
   case round =>
    obtain ⟨k,hk1,hk,rfl,HT,rfl⟩:=hrel;by_cases hlt:k<s.size
    · have gk:=kD5 s k hlt
      by_cases hd:kAT (bt s k)=true
      · have HG:Hid (∀ j,j<k+1→(j==0 || kAT (bt s j))=true):=hJ (fun j hj=>by
         rcases zF j k with r | r
         · exact HT.out j r
         · obtain rfl:j=k:=by omega
           rw [hd,Bool.or_true])
        generalize bt s k=c at *
        go_wp2_with fail
        refine (kF6 _ _).mono ?_;rintro e _ ⟨rfl,rfl⟩
        go_wp2_with fail
        go_roundw
        case rel=>exact ⟨k+1,by omega,by omega,by go_num,HG,trivial⟩
        case measure=>simp [intOf];omega
      · have hd:kAT (bt s k)=false:=by simpa using hd
        have HF:=hJ (HS.out k hlt (by omega) hd);generalize bt s k=c at *
        go_wp2_with fail
        refine (kF6 _ _).mono ?_;rintro e _ ⟨rfl,rfl⟩
        go_wp2_with fail
        go_ret;exact ⟨by rw [HF.out];rfl,rfl⟩
    · obtain rfl:k=s.size:=by omega
      have HF:Hid (kAZ s=true):=hJ (by rw [HY2.out,kDP HT.out])
      go_wp2_with fail
      go_ret;exact ⟨by rw [HF.out];rfl,rfl⟩
 · have g95:(bt s 0==95)=false:=beq_eq_false_iff_ne.2 h95
   have HN:=hJ (kHN s h95);have HN2:Hid (kAZ s=(List.range s.size).all (fun i=>kBA (bt s i) || (i != 0 && kAT (bt s i)))):=hJ (by rw [HN.out,decide_eq_true (by omega)];rfl);have HS:=hJ (other_stop s h95);generalize hc0:bt s 0=c0 at *;have HC0:=hJ hc0;clear hc0 h95;go_enter func139,ntmps139
   go_wp2_with fail
   go_loopw [4] (fun i wr=>∃ k:Nat,k≤s.size∧i= .int .i64 k∧Hid (∀ j,j<k→(kBA (bt s j) || (j != 0 && kAT (bt s j)))=true)∧w=wr) (fun i _=>s.size - (intOf i).toNat)
   case atStart=>exact ⟨0,by omega,rfl,hJ (fun j hj=>absurd hj (by omega)),rfl⟩
   case round =>
    obtain ⟨k,hk,rfl,HT,rfl⟩:=hrel;by_cases hlt:k<s.size
    · have gk:=kD5 s k hlt
      have HG:Hid ((kBA (bt s k) || (k != 0 && kAT (bt s k)))=true→∀ j,j<k+1→(kBA (bt s j) || (j != 0 && kAT (bt s j)))=true):=hJ (fun q j hj=>by
       rcases zF j k with r | r
       · exact HT.out j r
       · obtain rfl:j=k:=by omega
         exact q)
      have HSk:=hJ (HS.out k hlt);generalize bt s k=c at *;by_cases hl:kBA c=true
      · have HGo:=hJ (HG.out (by rw [hl];rfl))
        go_wp2_with fail
        refine (kEY _ _).mono ?_;rintro e _ ⟨rfl,rfl⟩
        go_wp2_with fail
        go_roundw
        case rel=>exact ⟨k+1,by omega,by go_num,HGo,trivial⟩
        case measure=>simp [intOf];omega
      · have hl:kBA c=false:=by simpa using hl
        by_cases hk0:k=0
        · have HF:=hJ (HSk.out hl (fun q=>absurd hk0 q))
          have hkz:((k:Int)==0)=true:=beq_iff_eq.2 (by omega);clear hk0
          go_wp2_with fail
          refine (kEY _ _).mono ?_;rintro e _ ⟨rfl,rfl⟩
          go_wp2_with fail
          go_ret;exact ⟨by rw [HF.out];rfl,rfl⟩
        · have hkz:((k:Int)==0)=false:=beq_eq_false_iff_ne.2 (by omega)
          by_cases hd:kAT c=true
          · have HGo:=hJ (HG.out (by rw [hl,hd,bne_iff_ne.2 hk0];rfl))
            clear hk0
            go_wp2_with fail
            refine (kEY _ _).mono ?_;rintro e _ ⟨rfl,rfl⟩
            go_wp2_with fail
            refine (kF6 _ _).mono ?_;rintro e _ ⟨rfl,rfl⟩
            go_wp2_with fail
            go_roundw
            case rel=>exact ⟨k+1,by omega,by go_num,HGo,trivial⟩
            case measure=>simp [intOf];omega
          · have hd:kAT c=false:=by simpa using hd
            have HF:=hJ (HSk.out hl (fun _=>hd));clear hk0
            go_wp2_with fail
            refine (kEY _ _).mono ?_;rintro e _ ⟨rfl,rfl⟩
            go_wp2_with fail
            refine (kF6 _ _).mono ?_;rintro e _ ⟨rfl,rfl⟩
            go_wp2_with fail
            go_ret;exact ⟨by rw [HF.out];rfl,rfl⟩
    · obtain rfl:k=s.size:=by omega
      have HF:Hid (kAZ s=true):=hJ (by rw [HN2.out,kDP HT.out])
      go_wp2_with fail
      go_ret;exact ⟨by rw [HF.out];rfl,rfl⟩
theorem valid_bad_const {x:Lin} (h:kCD x.const=false):kAB x=false:=by unfold kAB;rw [h];simp
theorem valid_bad_len {x:Lin} (h:12<x.terms.length):kAB x=false:=by unfold kAB;rw [decide_eq_false (by omega)];simp
theorem ref04_Valid {S:Blk} (x:Lin) (a:Option Addr) (n c:Nat) (w:World) (h:Sl kA7 S w a n c x.terms) (hz:szL x) :
 Calls Tryz.prog 80 #[.agg #[.int .i64 x.const,.slice a n c]] w fun e w'=>e= .returned (.bool (kAB x))∧Below w.heap.size w w':=by
 have H:=hJ h;have hn:n≤9223372036854775807:=by have:=h.cap;have:=h.max;unfold maxLen at this;omega
 have HZ:=hJ hz;clear h hz;have B0:Hid (Below w.heap.size w (w.alloc (.cells #[.int .i64 x.const,.slice a n c] 40))):=hJ ((zB _ _).alloc (zR _) _);have hbox:(w.alloc (.cells #[.int .i64 x.const,.slice a n c] 40)).cell? ⟨w.heap.size,1,none⟩=some (.slice a n c):=by simp [go_sem]
 have hbox0:(w.alloc (.cells #[.int .i64 x.const,.slice a n c] 40)).cell? ⟨w.heap.size,0,none⟩=some (.int .i64 x.const):=by simp [go_sem]
 by_cases hs:kCD x.const=true
 case neg =>
  have hs:kCD x.const=false:=by simpa using hs
  have HF:=hJ (valid_bad_const hs);clear hbox hbox0;go_enter func80,ntmps80
  go_wp2_with fail
  refine (kCB _ _).mono ?_;rintro e _ ⟨rfl,rfl⟩
  go_wp2_with fail
  go_ret;exact ⟨by rw [HF.out];rfl,B0.out⟩
 by_cases h12:12<n
 · have HF:=hJ (valid_bad_len (x:=x) (by rw [H.out.len];exact h12))
   have q1:decide (12<(n:Int))=true:=decide_eq_true (by omega);clear hbox hbox0;go_enter func80,ntmps80
   go_wp2_with fail
   refine (kCB _ _).mono ?_;rintro e _ ⟨rfl,rfl⟩
   go_wp2_with fail
   go_ret;exact ⟨by rw [HF.out];rfl,B0.out⟩
 have q1:decide (12<(n:Int))=false:=decide_eq_false (by omega);go_enter func80,ntmps80
 go_wp2_with fail
 refine (kCB _ _).mono ?_;rintro e _ ⟨rfl,rfl⟩
 go_wp2_with fail
 generalize (w.alloc (.cells #[.int .i64 x.const,.slice a n c] 40))=W at *;have H0:=hJ (H.out.below B0.out)
 go_loopw [3] (fun i wr=>∃ k:Nat,k≤n∧i= .int .i64 k∧Hid (∀ j,j<k→kFI x.terms j=true)∧Below W.heap.size W wr) (fun i _=>n - (intOf i).toNat)
 case atStart=>exact ⟨0,Nat.zero_le _,rfl,fun j hj=>absurd hj (by omega),zB _ _⟩
 case round =>
  obtain ⟨k,hk,rfl,HT,hB⟩:=hrel;have hxx:=kAE hbox _ hB;by_cases hlt:k<n
  · obtain ⟨b,off,rfl,hbW,_⟩:=H0.out.form k hlt
    have HR:=hJ (H0.out.below hB);obtain ⟨c0,c1⟩:=HR.out.coef k hlt;have HK:Hid (k<x.terms.length):=hJ (by rw [H.out.len];exact hlt);have HTK:Hid (kFI x.terms k=(kAZ (x.terms.getD k default).v && (x.terms.getD k default).c != 0 && kCD (x.terms.getD k default).c && (k==0 || slt (x.terms.getD (k - 1) default).v (x.terms.getD k default).v))):=hJ rfl;have hzt:(x.terms.getD k default).v.size≤281474976710656:=zE (HZ.out _ (kAM HK.out)) (by decide);generalize x.terms.getD k default=t at *
    go_wp2_with (fail)
    have hx1:=(kAE hbox _ (hB.alloc hB.size (.cells #[.string t.v,.int .i64 t.c] 44)))
    have hv0:(wr.alloc (.cells #[.string t.v,.int .i64 t.c] 44)).cell? ⟨wr.heap.size,0,none⟩=some (.string t.v):=by simp [go_sem]
    have hv1:(wr.alloc (.cells #[.string t.v,.int .i64 t.c] 44)).cell? ⟨wr.heap.size,1,none⟩=some (.int .i64 t.c):=by simp [go_sem]
    have hB2:=hB.alloc hB.size (.cells #[.string t.v,.int .i64 t.c] 44);clear c0 c1 hbox hbox0 hxx;generalize (wr.alloc (.cells #[.string t.v,.int .i64 t.c] 44))=w2 at *;have hv0:=Later.cell hv0;have hv1:=Later.cell hv1;have hx1:=Later.cell hx1;clear hB;have HB2:=hJ hB2;clear hB2;by_cases hnm:kAZ t.v=true
    · by_cases hc:t.c=0
      · have hc':(t.c==0)=true:=by rw [hc];rfl
        have HF:Hid (kAB x=false):=hJ (kE5 HK.out (by rw [HTK.out,hnm,hc];rfl));clear hc;refine kAC (by kernel_rfl) (by kernel_rfl) ?_
        repeat (go_big_quiet_step (first | fail | exact Later.same (kCO _ _ hzt) | exact Later.same (kCB _ _)))
        refine wpQuiet_nil ?_;rintro _ ⟨t9,rfl⟩
        go_wp2_with fail
        go_ret;exact ⟨by rw [HF.out];rfl,B0.out.trans ((HB2.out.trans (t9.b.mono HB2.out.size)).mono B0.out.size)⟩
      · have hc':(t.c==0)=false:=beq_eq_false_iff_ne.2 hc
        have hcn:(t.c != 0)=true:=bne_iff_ne.2 hc;by_cases hs:kCD t.c=true
        · cases k with
          | zero =>
            have HO:Hid (kFI x.terms 0=true):=hJ (by rw [HTK.out,hnm,hcn,hs];rfl);clear hc hcn;refine kAC (by kernel_rfl) (by kernel_rfl) ?_
            repeat (go_big_quiet_step (first | fail | exact Later.same (kCO _ _ hzt) | exact Later.same (kCB _ _)))
            refine wpQuiet_nil ?_;rintro _ ⟨t9,rfl⟩
            go_wp2_with fail
            go_roundw
            case rel=>exact ⟨1,by omega,by go_num,hJ (fun j hj=>(by omega:j=0) ▸ HO.out),HB2.out.trans (t9.b.mono HB2.out.size)⟩
            case measure=>simp [intOf];omega
          | succ k =>
            have hp:=Later.cell ((H0.out.below HB2.out).coef k (by omega)).1;have hk0:(0:Int)<((k+1:Nat):Int):=by omega
            have hki:(((k+1:Nat):Int) - 1)=(k:Int):=by omega
            simp only [Nat.add_sub_cancel] at HTK;generalize x.terms.getD k default=p at *;by_cases ho:Op.bytesLess p.v.toList t.v.toList=true
            · have HO:Hid (kFI x.terms (k+1)=true):=hJ (by rw [HTK.out,hnm,hcn,hs];simpa [slt] using ho)
              clear hc hcn;refine kAC (by kernel_rfl) (by kernel_rfl) ?_
              repeat (go_big_quiet_step (first | fail | exact Later.same (kCO _ _ hzt) | exact Later.same (kCB _ _)))
              refine wpQuiet_nil ?_;rintro _ ⟨t9,rfl⟩
              go_wp2_with fail
              go_roundw
              case rel=>exact ⟨k+1+1,by omega,by go_num,hJ (fun j hj=>by
               rcases zF j (k+1) with q | q
               · exact HT.out j q
               · obtain rfl:j=k+1:=by omega
                 exact HO.out),HB2.out.trans (t9.b.mono HB2.out.size)⟩
              case measure=>simp [intOf];omega
            · have ho:Op.bytesLess p.v.toList t.v.toList=false:=by simpa using ho
              have HF:Hid (kAB x=false):=hJ (kE5 HK.out (by rw [HTK.out,hnm,hcn,hs];simpa [slt] using ho));clear hc hcn;refine kAC (by kernel_rfl) (by kernel_rfl) ?_
              repeat (go_big_quiet_step (first | fail | exact Later.same (kCO _ _ hzt) | exact Later.same (kCB _ _)))
              refine wpQuiet_nil ?_;rintro _ ⟨t9,rfl⟩
              go_wp2_with fail
              go_ret;exact ⟨by rw [HF.out];rfl,B0.out.trans ((HB2.out.trans (t9.b.mono HB2.out.size)).mono B0.out.size)⟩
        · have hs:kCD t.c=false:=by simpa using hs
          have HF:Hid (kAB x=false):=hJ (kE5 HK.out (by rw [HTK.out,hnm,hcn,hs];rfl));clear hc hcn;refine kAC (by kernel_rfl) (by kernel_rfl) ?_
          repeat (go_big_quiet_step (first | fail | exact Later.same (kCO _ _ hzt) | exact Later.same (kCB _ _)))
          refine wpQuiet_nil ?_;rintro _ ⟨t9,rfl⟩
          go_wp2_with fail
          go_ret;exact ⟨by rw [HF.out];rfl,B0.out.trans ((HB2.out.trans (t9.b.mono HB2.out.size)).mono B0.out.size)⟩
    · have hnm:kAZ t.v=false:=by simpa using hnm
      have HF:Hid (kAB x=false):=hJ (kE5 HK.out (by rw [HTK.out,hnm];rfl));refine kAC (by kernel_rfl) (by kernel_rfl) ?_
      repeat (go_big_quiet_step (first | fail | exact Later.same (kCO _ _ hzt) | exact Later.same (kCB _ _)))
      refine wpQuiet_nil ?_;rintro _ ⟨t9,rfl⟩
      go_wp2_with fail
      go_ret;exact ⟨by rw [HF.out];rfl,B0.out.trans ((HB2.out.trans (t9.b.mono HB2.out.size)).mono B0.out.size)⟩
  · obtain rfl:k=n:=by omega
    have HF:Hid (kAB x=true):=hJ (by
     unfold kAB kGQ;rw [H.out.len,kDP HT.out,hs,decide_eq_true (by omega)];rfl)
    go_wp2_with fail
    go_ret;exact ⟨by rw [HF.out];rfl,B0.out.trans (hB.mono B0.out.size)⟩
open Go.Shelf
def kAQ (s:Str):Bool:=decide (1≤s.size∧s.size≤30) && (decide (65≤bt s 0∧bt s 0≤90) && (List.range s.size).all (fun i=>i==0 || kAT (bt s i)))
def digitsC:Str:=⟨#[48,49,50,51,52,53,54,55,56,57]⟩
theorem kI8:∀ i:Fin 256,digitsC.data.toList.contains (UInt8.ofNat i.val)=kAT (i.val:Int):=by decide +kernel
theorem kHY (c:UInt8):digitsC.data.toList.contains c=kAT (c.toNat:Int):=by
 have:=kI8 ⟨c.toNat,c.toNat_lt⟩;simp only [UInt8.ofNat_toNat] at this;exact this
theorem drop_all {α :Type} (p: α →Bool):∀ l:List α,(l.dropWhile p=[] ↔ ∀ x ∈ l,p x=true)
 | []=>by simp
 | a :: l=>by
   rw [List.dropWhile_cons]
   split
   · next h=>rw [drop_all p l];simp [h]
   · next h=>simp [h]
theorem trim_all (l cs:List UInt8):Lib.trimS l cs=[] ↔ ∀ x ∈ l,cs.contains x=true:=by
 unfold Lib.trimS Lib.trimLeftS;rw [drop_all]
 constructor
 · intro h
   by_cases q:Lib.trimRightS l cs=[]
   · unfold Lib.trimRightS at q
     rw [List.reverse_eq_nil_iff,drop_all] at q;exact fun x hx=>q x (List.mem_reverse.2 hx)
   · exfalso
     -- the last one of what is left is none of the set
     unfold Lib.trimRightS at q h;rw [List.reverse_eq_nil_iff] at q;cases e:l.reverse.dropWhile (cs.contains ·) with
     | nil=>exact q e
     | cons a r =>
       have h1:=h a (by rw [e];simp);have h2:=List.head?_dropWhile_not (cs.contains ·) l.reverse;rw [e] at h2;simp at h2;rw [List.contains_iff_mem] at h1;exact h2 h1
 · intro h x hx
   refine h x ?_;unfold Lib.trimRightS at hx;exact List.mem_reverse.1 ((List.dropWhile_sublist _).subset (List.mem_reverse.1 hx))
theorem trim_digits (s:Str) (hs:s.size≤281474976710656) (w:World):Calls Tryz.prog 169 #[.string s,.string digitsC] w fun e w'=>(∃ u:Str,e= .returned (.string u)∧(u.toList.isEmpty)=(List.range s.size).all (fun i=>kAT (bt s i)))∧Below w.heap.size w w':=by
 have:=Any.strings_Trim_laid Tryz.lays160 (by kernel_rfl) s digitsC w (by omega) (by decide) (ascii_of_all (by decide));refine Calls.mono this ?_;rintro e w' ⟨rfl,hb⟩;refine ⟨⟨_,rfl,?_⟩,hb⟩;rw [Bool.eq_iff_iff,List.isEmpty_iff,ByteArray.toList_eq,List.all_eq_true]
 show Lib.trimS s.data.toList digitsC.data.toList=[] ↔ _
 rw [trim_all]
 constructor
 · intro h i hi
   obtain ⟨c,hc,e⟩:=at_bt s i (List.mem_range.1 hi);rw [e,← kHY];exact h c (List.mem_iff_getElem?.2 ⟨i,hc⟩)
 · intro h x hx
   obtain ⟨i,hi⟩:=List.mem_iff_getElem?.1 hx
   have hlt:i<s.size:=by
    rcases zF i s.data.toList.length with q | q
    · exact q
    · rw [List.getElem?_eq_none q] at hi;cases hi
   have:=h i (List.mem_range.2 hlt)
   rwa [kJD s i x hi,← kHY] at this
theorem elem_cases (s:Str):kAQ s=(decide (1≤s.size∧s.size≤30) && (decide (65≤bt s 0∧bt s 0≤90) && (List.range s.size).all (fun i=>i==0 || kAT (bt s i)))):=rfl
theorem bt_tail (s:Str) (i:Nat):bt (tail1 s) i=bt s (i+1):=by
 unfold bt nb;rw [tail1_list,zD,zD,List.getElem?_map,List.getElem?_map,List.getElem?_drop,Nat.add_comm 1 i]
theorem all_tail (s:Str) (h:0<s.size):(List.range (tail1 s).size).all (fun i=>kAT (bt (tail1 s) i))=(List.range s.size).all (fun i=>i==0 || kAT (bt s i)):=by
 rw [Bool.eq_iff_iff,List.all_eq_true,List.all_eq_true,tail1_size]
 constructor
 · intro q i hi
   have hi:=List.mem_range.1 hi;rcases Nat.eq_zero_or_pos i with r | r
   · subst r;rfl
   · have:=q (i - 1) (List.mem_range.2 (by omega))
     rw [bt_tail,show i - 1+1=i by omega] at this;rw [this,Bool.or_true]
 · intro q i hi
   have hi:=List.mem_range.1 hi;have:=q (i+1) (List.mem_range.2 (by omega));rw [bt_tail]
   simpa using this
theorem kCA (s:Str) (hs:s.size≤281474976710656) (w:World):Calls Tryz.prog 110 #[.string s] w fun e w'=>e= .returned (.bool (kAQ s))∧Below w.heap.size w w':=by
 have HN:=hJ (elem_cases s);by_cases h0:s.size=0
 · have q0:decide ((s.size:Int)<1)=true:=decide_eq_true (by omega)
   have HF:Hid (kAQ s=false):=hJ (by rw [HN.out,decide_eq_false (by omega)];rfl);go_enter func110,ntmps110
   go_wp2_with fail
   go_ret;exact ⟨by rw [HF.out];rfl,zB _ _⟩
 have q0:decide ((s.size:Int)<1)=false:=decide_eq_false (by omega);by_cases h30:30<s.size
 · have q1:decide (30<(s.size:Int))=true:=decide_eq_true (by omega)
   have HF:Hid (kAQ s=false):=hJ (by rw [HN.out,decide_eq_false (by omega)];rfl);go_enter func110,ntmps110
   go_wp2_with fail
   go_ret;exact ⟨by rw [HF.out];rfl,zB _ _⟩
 have q1:decide (30<(s.size:Int))=false:=decide_eq_false (by omega);have hp0:0<s.size:=by omega
 have g0:=kD5 s 0 hp0;have HA:=hJ (all_tail s hp0);have HN:Hid (kAQ s=(decide (65≤bt s 0∧bt s 0≤90) && (List.range s.size).all (fun i=>i==0 || kAT (bt s i)))):=hJ (by rw [HN.out,decide_eq_true (by omega)];rfl);generalize bt s 0=c at *;by_cases ha:c<65
 · have q2:decide (c<65)=true:=decide_eq_true ha
   have HF:Hid (kAQ s=false):=hJ (by rw [HN.out,decide_eq_false (by omega)];rfl);go_enter func110,ntmps110
   go_wp2_with fail
   go_ret;exact ⟨by rw [HF.out];rfl,zB _ _⟩
 have q2:decide (c<65)=false:=decide_eq_false ha;by_cases hz:90<c
 · have q3:decide (90<c)=true:=decide_eq_true hz
   have HF:Hid (kAQ s=false):=hJ (by rw [HN.out,decide_eq_false (by omega)];rfl);go_enter func110,ntmps110
   go_wp2_with fail
   go_ret;exact ⟨by rw [HF.out];rfl,zB _ _⟩
 have q3:decide (90<c)=false:=decide_eq_false hz;have HF:Hid (kAQ s=(List.range s.size).all (fun i=>i==0 || kAT (bt s i))):=hJ (by rw [HN.out,decide_eq_true (by omega)];rfl);go_enter func110,ntmps110
 go_wp2_with fail
 refine (trim_digits (tail1 s) (by rw [tail1_size];omega) w).mono ?_;rintro e w1 ⟨⟨u,rfl,hu⟩,hb⟩;have HU:=hJ hu;clear hu
 go_wp2_with fail
 go_ret;exact ⟨by rw [HF.out,← HA.out,← HU.out];rfl,hb⟩
theorem kD9 (s:Str) (hs:s.size≤281474976710656) (w:World):Calls Tryz.prog 88 #[.string s] w fun e w'=>e= .returned (.bool (kAQ s))∧w=w':=by
 have HN:=hJ (elem_cases s);go_enter func88,ntmps88
 go_wp2_with fail
 go_loopw [3] (fun i wr=>∃ k:Nat,1≤k∧(k≤s.size∨k=1)∧i= .int .i64 k∧Hid (∀ j,j<k→(j==0 || kAT (bt s j))=true)∧w=wr) (fun i _=>s.size - (intOf i).toNat)
 case atStart=>exact ⟨1,by omega,by omega,rfl,hJ (fun j hj=>by rw [show j=0 by omega];rfl),rfl⟩
 case round =>
  obtain ⟨k,hk1,hk,rfl,HT,rfl⟩:=hrel;by_cases hlt:k<s.size
  · have gk:=kD5 s k hlt
    have HG:Hid (kAT (bt s k)=true→∀ j,j<k+1→(j==0 || kAT (bt s j))=true):=hJ (fun q j hj=>by
     rcases zF j k with r | r
     · exact HT.out j r
     · obtain rfl:j=k:=by omega
       rw [q,Bool.or_true])
    have HS:Hid (kAT (bt s k)=false→kAQ s=false):=hJ (fun q=>by
     rw [HN.out,kHU hlt (by rw [q,beq_eq_false_iff_ne.2 (by omega:k≠0)];rfl)];simp)
    generalize bt s k=c at *;by_cases h1:c<48
    · have HF:=hJ (HS.out (by unfold kAT;exact decide_eq_false (by omega)))
      have r1:decide (c<48)=true:=decide_eq_true h1
      go_wp2_with fail
      go_ret;exact ⟨by rw [HF.out];rfl,rfl⟩
    have r1:decide (c<48)=false:=decide_eq_false h1;by_cases h2:57<c
    · have HF:=hJ (HS.out (by unfold kAT;exact decide_eq_false (by omega)))
      have r2:decide (57<c)=true:=decide_eq_true h2
      go_wp2_with fail
      go_ret;exact ⟨by rw [HF.out];rfl,rfl⟩
    have r2:decide (57<c)=false:=decide_eq_false h2;have HGo:=hJ (HG.out (by unfold kAT;exact decide_eq_true (by omega)))
    go_wp2_with fail
    go_roundw
    case rel=>exact ⟨k+1,by omega,by omega,by go_num,HGo,trivial⟩
    case measure=>simp [intOf];omega
  · have HN:Hid (kAQ s=(decide (1≤s.size∧s.size≤30) && decide (65≤bt s 0∧bt s 0≤90))):=hJ (by
     rw [HN.out,kDP (fun i hi=>HT.out i (by omega)),Bool.and_true])
    by_cases h0:s.size=0
    · have q0:decide ((1:Int)≤(s.size:Int))=false:=decide_eq_false (by omega)
      have HF:Hid (kAQ s=false):=hJ (by rw [HN.out,decide_eq_false (by omega)];rfl)
      go_wp2_with fail
      go_ret;exact ⟨by rw [HF.out];rfl,rfl⟩
    have q0:decide ((1:Int)≤(s.size:Int))=true:=decide_eq_true (by omega);by_cases h30:30<s.size
    · have q1:decide ((s.size:Int)≤30)=false:=decide_eq_false (by omega)
      have HF:Hid (kAQ s=false):=hJ (by rw [HN.out,decide_eq_false (by omega)];rfl)
      go_wp2_with fail
      go_ret;exact ⟨by rw [HF.out];rfl,rfl⟩
    have q1:decide ((s.size:Int)≤30)=true:=decide_eq_true (by omega);have g0:=kD5 s 0 (by omega)
    have HN:Hid (kAQ s=(decide (65≤bt s 0∧bt s 0≤90))):=hJ (by
     rw [HN.out,decide_eq_true (by omega)];rfl)
    generalize bt s 0=c at *;by_cases ha:c<65
    · have q2:decide (65≤c)=false:=decide_eq_false (by omega)
      have HF:Hid (kAQ s=false):=hJ (by rw [HN.out,decide_eq_false (by omega)])
      go_wp2_with fail
      go_ret;exact ⟨by rw [HF.out];rfl,rfl⟩
    have q2:decide (65≤c)=true:=decide_eq_true (by omega);by_cases hz:90<c
    · have q3:decide (c≤90)=false:=decide_eq_false (by omega)
      have HF:Hid (kAQ s=false):=hJ (by rw [HN.out,decide_eq_false (by omega)])
      go_wp2_with fail
      go_ret;exact ⟨by rw [HF.out,← q3];rfl,rfl⟩
    have q3:decide (c≤90)=true:=decide_eq_true (by omega);have HF:Hid (kAQ s=true):=hJ (by rw [HN.out,decide_eq_true (by omega)])
    go_wp2_with fail
    go_ret;exact ⟨by rw [HF.out,← q3];rfl,rfl⟩
def intC:List UInt8:=[105,110,116]
def boolC:List UInt8:=[98,111,111,108]
def kD1 (s:Str):Bool:=(s.toList==intC) || ((s.toList==boolC) || kAQ s)
theorem ref11_Elem (s:Str) (hs:s.size≤281474976710656) (w:World):Calls Tryz.prog 136 #[.string s] w fun e w'=>e= .returned (.bool (kD1 s))∧w=w':=by
 have HN:Hid (kD1 s=((s.toList==[105,110,116]) || ((s.toList==[98,111,111,108]) || kAQ s))):=hJ rfl;by_cases h1:(s.toList==[105,110,116])=true
 · have HF:Hid (kD1 s=true):=hJ (by rw [HN.out,h1];rfl)
   go_enter func136,ntmps136
   go_wp2_with fail
   go_ret;exact ⟨by rw [HF.out];rfl,rfl⟩
 have h1:(s.toList==[105,110,116])=false:=by simpa using h1
 by_cases h2:(s.toList==[98,111,111,108])=true
 · have HF:Hid (kD1 s=true):=hJ (by rw [HN.out,h1,h2];rfl)
   go_enter func136,ntmps136
   go_wp2_with fail
   go_ret;exact ⟨by rw [HF.out];rfl,rfl⟩
 have h2:(s.toList==[98,111,111,108])=false:=by simpa using h2
 have HF:Hid (kD1 s=kAQ s):=hJ (by rw [HN.out,h1,h2];rfl);go_enter func136,ntmps136
 go_wp2_with fail
 refine (kD9 s hs _).mono ?_;rintro e _ ⟨rfl,rfl⟩
 go_wp2_with fail
 go_ret;exact ⟨by rw [HF.out];rfl,rfl⟩
abbrev Ent1 (k:FuncId):Prop:=∀ args w,(callFunc k args).run Tryz.prog w= .ok (.enter k args) w
def idx {α :Type} (p: α →Bool) (l:List α):Int:=if l.any p then (l.findIdx p:Int) else -1
theorem idx_hit {α :Type} [Inhabited α] {p: α →Bool} {l:List α} {k:Nat} (hk:k<l.length) (h:p (l.getD k default)=true) (hb:∀ j,j<k→p (l.getD j default)=false):idx p l=k:=by
 unfold idx;have hg:∀ j (hj:j<l.length),l.getD j default=l[j]:=fun j hj=>by rw [zD,zG hj];rfl
 rw [if_pos (List.any_eq_true.2 ⟨l[k],List.getElem_mem hk,by rw [← hg k hk];exact h⟩)]
 congr 1
 rw [List.findIdx_eq hk];exact ⟨by rw [← hg k hk];exact h,fun j hj=>by rw [← hg j (by omega)];simpa using hb j hj⟩
theorem kI5 {α :Type} [Inhabited α] {p: α →Bool} {l:List α} (hb:∀ j,j<l.length→p (l.getD j default)=false):idx p l= -1:=by
 unfold idx;rw [if_neg];rw [List.any_eq_true];rintro ⟨x,hx,hp⟩;obtain ⟨i,hi⟩:=List.mem_iff_getElem?.1 hx
 have hlt:i<l.length:=by
  rcases zF i l.length with q | q
  · exact q
  · rw [List.getElem?_eq_none q] at hi;cases hi
 have:=hb i hlt;rw [zD,hi] at this;simp only [Option.getD_some] at this;rw [hp] at this;cases this
theorem Sl.lin {S:Blk} {w:World} {b off n c:Nat} {l:List Lin} (h:Sl RLin S w (some ⟨b,off,none⟩) n c l) (k:Nat) (hk:k<n) :
 ∃ t,RLin.rd S w [.int .i64 (l.getD k default).const,t] (l.getD k default)∧(SlV kA7 S w t (l.getD k default).terms)∧w.cell? ⟨b,off+k * 2,none⟩=some (.int .i64 (l.getD k default).const)∧w.cell? ⟨b,off+k * 2+1,none⟩=some (t):=by
 obtain ⟨cs,hr,hc⟩:=h.cells k _ (kFA (by rw [h.len];exact hk));obtain ⟨t,rfl,hd⟩:=hr;exact ⟨t,⟨t,rfl,hd⟩,hd,hc 0 _ rfl,hc 1 _ rfl⟩
theorem Sl.typ {S:Blk} {w:World} {b off n c:Nat} {l:List Typ} (h:Sl RTyp S w (some ⟨b,off,none⟩) n c l) (k:Nat) (hk:k<n) :
 ∃ t,RTyp.rd S w [.string (l.getD k default).elem,.string (l.getD k default).shape.row,t] (l.getD k default)∧(SlV RLin S w t (l.getD k default).shape.dims)∧w.cell? ⟨b,off+k * 3,none⟩=some (.string (l.getD k default).elem)∧w.cell? ⟨b,off+k * 3+1,none⟩=some (.string (l.getD k default).shape.row)∧w.cell? ⟨b,off+k * 3+2,none⟩=some (t):=by
 obtain ⟨cs,hr,hc⟩:=h.cells k _ (kFA (by rw [h.len];exact hk));obtain ⟨t,rfl,hd⟩:=hr;exact ⟨t,⟨t,rfl,hd⟩,hd,hc 0 _ rfl,hc 1 _ rfl,hc 2 _ rfl⟩
theorem Sl.bnd {S:Blk} {w:World} {b off n c:Nat} {l:List Bnd} (h:Sl RBnd S w (some ⟨b,off,none⟩) n c l) (k:Nat) (hk:k<n) :
 ∃ t d,RBnd.rd S w [.int .i64 (l.getD k default).kind,.string (l.getD k default).v,.int .i64 (l.getD k default).dim.const,t,.string (l.getD k default).row.row,d,.string (l.getD k default).elem] (l.getD k default)∧(SlV kA7 S w t (l.getD k default).dim.terms∧SlV RLin S w d (l.getD k default).row.dims)∧w.cell? ⟨b,off+k * 7,none⟩=some (.int .i64 (l.getD k default).kind)∧w.cell? ⟨b,off+k * 7+1,none⟩=some (.string (l.getD k default).v)∧w.cell? ⟨b,off+k * 7+2,none⟩=some (.int .i64 (l.getD k default).dim.const)∧w.cell? ⟨b,off+k * 7+3,none⟩=some (t)∧w.cell? ⟨b,off+k * 7+4,none⟩=some (.string (l.getD k default).row.row)∧w.cell? ⟨b,off+k * 7+5,none⟩=some (d)∧w.cell? ⟨b,off+k * 7+6,none⟩=some (.string (l.getD k default).elem):=by
 obtain ⟨cs,hr,hc⟩:=h.cells k _ (kFA (by rw [h.len];exact hk));obtain ⟨t,d,rfl,hd⟩:=hr;exact ⟨t,d,⟨t,d,rfl,hd⟩,hd,hc 0 _ rfl,hc 1 _ rfl,hc 2 _ rfl,hc 3 _ rfl,hc 4 _ rfl,hc 5 _ rfl,hc 6 _ rfl⟩
theorem index_Lin {S:Blk} (l:List Lin) (a:Option Addr) (n c:Nat) (w:World) (h:Sl RLin S w a n c l) (g:FuncId) (cp:Array Value) (hen:Ent1 g) (p:Lin→Bool)
 (hp:∀ (W:World) (x:Lin) (cs:List Value),Below w.heap.size w W→x ∈ l→RLin.rd S W cs x→Calls Tryz.prog g (#[.agg cs.toArray]++cp) W fun e w'=>e= .returned (.bool (p x))∧Below W.heap.size W w') :
 Calls Tryz.prog 72 #[.slice a n c,.func (.func g) #[] cp] w fun e w'=>e= .returned (.int .i64 (idx p l))∧Below w.heap.size w w':=by
 have H:=hJ h;have HP:=hJ hp;have hn:n≤9223372036854775807:=by have:=h.cap;have:=h.max;unfold maxLen at this;omega
 clear h hp;go_enter func72,ntmps72
 go_wp2_with fail
 go_loopw [5,8] (fun q i wr=>∃ k:Nat,k≤n∧i= .int .i64 k∧Hid (∀ j,j<k→p (l.getD j default)=false)∧Below w.heap.size w wr) (fun _ i _=>n - (intOf i).toNat)
 case atStart=>exact ⟨0,Nat.zero_le _,rfl,fun j hj=>absurd hj (by omega),zB _ _⟩
 case round =>
  obtain ⟨k,hk,rfl,HT,hB⟩:=hrel;by_cases hlt:k<n
  · obtain ⟨b,off,rfl,hbW,_⟩:=H.out.form k hlt
    have HK:Hid (k<l.length):=hJ (by rw [H.out.len];exact hlt);have HR:=hJ (H.out.below hB);obtain ⟨t,hr,hd,c0,c1⟩:=HR.out.lin k hlt;have HC:=hJ (HP.out _ _ _ hB (kAM HK.out) hr);have HH:Hid (p (l.getD k default)=true→idx p l=k):=hJ (fun q=>idx_hit HK.out q HT.out)
    have HG:Hid (p (l.getD k default)=false→∀ j,j<k+1→p (l.getD j default)=false):=hJ (fun q j hj=>by
     rcases zF j k with r | r
     · exact HT.out j r
     · obtain rfl:j=k:=by omega
       exact q)
    clear hd hr;generalize l.getD k default=x at *;by_cases hq:p x=true
    · have HF:=hJ (HH.out hq)
      have HC:Hid (Calls Tryz.prog g _ wr _):=HC;rw [hq] at HC
      go_wp2_with (go_at_fn g;refine HC.out.mono ?_;rintro e w' ⟨rfl,hb'⟩)
      go_ret;exact ⟨by rw [HF.out];rfl,hB.trans (hb'.mono hB.size)⟩
    · have hq:p x=false:=by simpa using hq
      have HGo:=hJ (HG.out hq);rw [hq] at HC
      go_wp2_with (go_at_fn g;refine HC.out.mono ?_;rintro e w' ⟨rfl,hb'⟩)
      go_roundw
      case rel=>exact ⟨k+1,by omega,by go_num,HGo,hB.trans (hb'.mono hB.size)⟩
      case measure=>simp [intOf];omega
  · have HF:Hid (idx p l= -1):=hJ (kI5 fun j hj=>HT.out j (by rw [H.out.len] at hj;omega))
    go_wp2_with fail
    go_ret;exact ⟨by rw [HF.out];rfl,hB⟩
theorem index_Typ {S:Blk} (l:List Typ) (a:Option Addr) (n c:Nat) (w:World) (h:Sl RTyp S w a n c l) (g:FuncId) (cp:Array Value) (hen:Ent1 g) (p:Typ→Bool)
 (hp:∀ (W:World) (x:Typ) (cs:List Value),Below w.heap.size w W→x ∈ l→RTyp.rd S W cs x→Calls Tryz.prog g (#[.agg cs.toArray]++cp) W fun e w'=>e= .returned (.bool (p x))∧Below W.heap.size W w') :
 Calls Tryz.prog 121 #[.slice a n c,.func (.func g) #[] cp] w fun e w'=>e= .returned (.int .i64 (idx p l))∧Below w.heap.size w w':=by
 have H:=hJ h;have HP:=hJ hp;have hn:n≤9223372036854775807:=by have:=h.cap;have:=h.max;unfold maxLen at this;omega
 clear h hp;go_enter func121,ntmps121
 go_wp2_with fail
 go_loopw [5,8] (fun q i wr=>∃ k:Nat,k≤n∧i= .int .i64 k∧Hid (∀ j,j<k→p (l.getD j default)=false)∧Below w.heap.size w wr) (fun _ i _=>n - (intOf i).toNat)
 case atStart=>exact ⟨0,Nat.zero_le _,rfl,fun j hj=>absurd hj (by omega),zB _ _⟩
 case round =>
  obtain ⟨k,hk,rfl,HT,hB⟩:=hrel;by_cases hlt:k<n
  · obtain ⟨b,off,rfl,hbW,_⟩:=H.out.form k hlt
    have HK:Hid (k<l.length):=hJ (by rw [H.out.len];exact hlt);have HR:=hJ (H.out.below hB);obtain ⟨t,hr,hd,c0,c1,c2⟩:=HR.out.typ k hlt;have HC:=hJ (HP.out _ _ _ hB (kAM HK.out) hr);have HH:Hid (p (l.getD k default)=true→idx p l=k):=hJ (fun q=>idx_hit HK.out q HT.out)
    have HG:Hid (p (l.getD k default)=false→∀ j,j<k+1→p (l.getD j default)=false):=hJ (fun q j hj=>by
     rcases zF j k with r | r
     · exact HT.out j r
     · obtain rfl:j=k:=by omega
       exact q)
    clear hd hr;generalize l.getD k default=x at *;by_cases hq:p x=true
    · have HF:=hJ (HH.out hq)
      have HC:Hid (Calls Tryz.prog g _ wr _):=HC;rw [hq] at HC
      go_wp2_with (go_at_fn g;refine HC.out.mono ?_;rintro e w' ⟨rfl,hb'⟩)
      go_ret;exact ⟨by rw [HF.out];rfl,hB.trans (hb'.mono hB.size)⟩
    · have hq:p x=false:=by simpa using hq
      have HGo:=hJ (HG.out hq);rw [hq] at HC
      go_wp2_with (go_at_fn g;refine HC.out.mono ?_;rintro e w' ⟨rfl,hb'⟩)
      go_roundw
      case rel=>exact ⟨k+1,by omega,by go_num,HGo,hB.trans (hb'.mono hB.size)⟩
      case measure=>simp [intOf];omega
  · have HF:Hid (idx p l= -1):=hJ (kI5 fun j hj=>HT.out j (by rw [H.out.len] at hj;omega))
    go_wp2_with fail
    go_ret;exact ⟨by rw [HF.out];rfl,hB⟩
theorem index_Bnd {S:Blk} (l:List Bnd) (a:Option Addr) (n c:Nat) (w:World) (h:Sl RBnd S w a n c l) (g:FuncId) (cp:Array Value) (hen:Ent1 g) (p:Bnd→Bool)
 (hp:∀ (W:World) (x:Bnd) (cs:List Value),Below w.heap.size w W→x ∈ l→RBnd.rd S W cs x→Calls Tryz.prog g (#[.agg cs.toArray]++cp) W fun e w'=>e= .returned (.bool (p x))∧Below W.heap.size W w') :
 Calls Tryz.prog 93 #[.slice a n c,.func (.func g) #[] cp] w fun e w'=>e= .returned (.int .i64 (idx p l))∧Below w.heap.size w w':=by
 have H:=hJ h;have HP:=hJ hp;have hn:n≤9223372036854775807:=by have:=h.cap;have:=h.max;unfold maxLen at this;omega
 clear h hp;go_enter func93,ntmps93
 go_wp2_with fail
 go_loopw [5,8] (fun q i wr=>∃ k:Nat,k≤n∧i= .int .i64 k∧Hid (∀ j,j<k→p (l.getD j default)=false)∧Below w.heap.size w wr) (fun _ i _=>n - (intOf i).toNat)
 case atStart=>exact ⟨0,Nat.zero_le _,rfl,fun j hj=>absurd hj (by omega),zB _ _⟩
 case round =>
  obtain ⟨k,hk,rfl,HT,hB⟩:=hrel;by_cases hlt:k<n
  · obtain ⟨b,off,rfl,hbW,_⟩:=H.out.form k hlt
    have HK:Hid (k<l.length):=hJ (by rw [H.out.len];exact hlt);have HR:=hJ (H.out.below hB);obtain ⟨t,d,hr,hd,c0,c1,c2,c3,c4,c5,c6⟩:=HR.out.bnd k hlt;have HC:=hJ (HP.out _ _ _ hB (kAM HK.out) hr);have HH:Hid (p (l.getD k default)=true→idx p l=k):=hJ (fun q=>idx_hit HK.out q HT.out)
    have HG:Hid (p (l.getD k default)=false→∀ j,j<k+1→p (l.getD j default)=false):=hJ (fun q j hj=>by
     rcases zF j k with r | r
     · exact HT.out j r
     · obtain rfl:j=k:=by omega
       exact q)
    clear hd hr;generalize l.getD k default=x at *;by_cases hq:p x=true
    · have HF:=hJ (HH.out hq)
      have HC:Hid (Calls Tryz.prog g _ wr _):=HC;rw [hq] at HC
      go_wp2_with (go_at_fn g;refine HC.out.mono ?_;rintro e w' ⟨rfl,hb'⟩)
      go_ret;exact ⟨by rw [HF.out];rfl,hB.trans (hb'.mono hB.size)⟩
    · have hq:p x=false:=by simpa using hq
      have HGo:=hJ (HG.out hq);rw [hq] at HC
      go_wp2_with (go_at_fn g;refine HC.out.mono ?_;rintro e w' ⟨rfl,hb'⟩)
      go_roundw
      case rel=>exact ⟨k+1,by omega,by go_num,HGo,hB.trans (hb'.mono hB.size)⟩
      case measure=>simp [intOf];omega
  · have HF:Hid (idx p l= -1):=hJ (kI5 fun j hj=>HT.out j (by rw [H.out.len] at hj;omega))
    go_wp2_with fail
    go_ret;exact ⟨by rw [HF.out];rfl,hB⟩
theorem blw2 (w:World) (a b:Obj):Below w.heap.size w ((w.alloc a).alloc b):=((zB _ _).alloc (zR _) _).alloc (by simp) _
def kBI {α :Type} [Inhabited α] (p: α → α →Bool) (l l2:List α):Bool:=l.length==l2.length && (List.range l.length).all (fun i=>p (l.getD i default) (l2.getD i default))
theorem eq_len {α :Type} [Inhabited α] (p: α → α →Bool) {l l2:List α} (h:l.length≠l2.length):kBI p l l2=false:=by
 unfold kBI;rw [beq_eq_false_iff_ne.2 h];rfl
theorem eq_stop {α :Type} [Inhabited α] (p: α → α →Bool) {l l2:List α} {k:Nat} (hk:k<l.length) (hk2:k<l2.length) (h:p (l.getD k default) (l2.getD k default)=false):kBI p l l2=false:=by
 unfold kBI;rw [kHU hk h,Bool.and_false]
theorem eq_done {α :Type} [Inhabited α] (p: α → α →Bool) {l l2:List α} (h:l.length=l2.length) (ha:∀ j,j<l.length→p (l.getD j default) (l2.getD j default)=true):kBI p l l2=true:=by
 unfold kBI;rw [kDP ha,beq_iff_eq.2 h];rfl
theorem equal_Lin {S T:Blk} (l l2:List Lin) (a a2:Option Addr) (n n2 c c2:Nat) (w:World) (h:Sl RLin S w a n c l) (h2:Sl RLin T w a2 n2 c2 l2) (g:FuncId) (hen:Ent1 g) (p:Lin→Lin→Bool)
 (hp:∀ (W:World) (x y:Lin) (cs ds:List Value),Below w.heap.size w W→x ∈ l→y ∈ l2→RLin.rd S W cs x→RLin.rd T W ds y→Calls Tryz.prog g #[.agg cs.toArray,.agg ds.toArray] W fun e w'=>e= .returned (.bool (p x y))∧Below W.heap.size W w') :
 Calls Tryz.prog 237 #[.slice a n c,.slice a2 n2 c2,.func (.func g) #[] #[]] w fun e w'=>e= .returned (.bool (kBI p l l2))∧Below w.heap.size w w':=by
 have H:=hJ h;have H2:=hJ h2;have HP:=hJ hp;have hn:n≤9223372036854775807:=by have:=h.cap;have:=h.max;unfold maxLen at this;omega
 have hn2:n2≤9223372036854775807:=by have:=h2.cap;have:=h2.max;unfold maxLen at this;omega
 clear h h2 hp;by_cases hnn:n=n2
 case neg =>
  have HF:Hid (kBI p l l2=false):=hJ (eq_len p (by rw [H.out.len,H2.out.len];exact hnn));have q:((n:Int) != (n2:Int))=true:=bne_iff_ne.2 (by omega);go_enter func237,ntmps237
  go_wp2_with fail
  go_ret;exact ⟨by rw [HF.out];rfl,zB _ _⟩
 subst hnn;go_enter func237,ntmps237
 go_wp2_with fail
 go_loopw [17] (fun i wr=>∃ k:Nat,k≤n∧i= .int .i64 k∧Hid (∀ j,j<k→p (l.getD j default) (l2.getD j default)=true)∧Below w.heap.size w wr) (fun i _=>n - (intOf i).toNat)
 case atStart=>exact ⟨0,Nat.zero_le _,rfl,fun j hj=>absurd hj (by omega),zB _ _⟩
 case round =>
  obtain ⟨k,hk,rfl,HT,hB⟩:=hrel;by_cases hlt:k<n
  · obtain ⟨b,off,rfl,hbW,_⟩:=H.out.form k hlt
    obtain ⟨b2,off2,rfl,hbW2,_⟩:=H2.out.form k hlt;have HK:Hid (k<l.length):=hJ (by rw [H.out.len];exact hlt);have HK2:Hid (k<l2.length):=hJ (by rw [H2.out.len];exact hlt);have HR:=hJ (H.out.below hB);have HR2:=hJ (H2.out.below hB);obtain ⟨t,hr,hd,c0,c1⟩:=HR.out.lin k hlt;obtain ⟨t2,hr2,hd2,d0,d1⟩:=HR2.out.lin k hlt;have HM:=hJ (kAM HK.out);have HM2:=hJ (kAM HK2.out);have HRd:=hJ hr;have HRd2:=hJ hr2;have HH:Hid (p (l.getD k default) (l2.getD k default)=false→kBI p l l2=false):=hJ (fun q=>eq_stop p HK.out HK2.out q)
    have HG:Hid (p (l.getD k default) (l2.getD k default)=true→∀ j,j<k+1→p (l.getD j default) (l2.getD j default)=true):=hJ (fun q j hj=>by
     rcases zF j k with r | r
     · exact HT.out j r
     · obtain rfl:j=k:=by omega
       exact q)
    obtain ⟨ta1,tc1,rfl,-⟩:=hd;obtain ⟨ta2,tc2,rfl,-⟩:=hd2;clear hr hr2;generalize l.getD k default=x at *;generalize l2.getD k default=y at *
    have HB:Hid (∀ W',Below wr.heap.size wr W'→Calls Tryz.prog g #[.agg #[.int .i64 x.const,.slice ta1 x.terms.length tc1],.agg #[.int .i64 y.const,.slice ta2 y.terms.length tc2]] W' fun e w'=>e= .returned (.bool (p x y))∧Below W'.heap.size W' w') :=
     hJ (fun W' hW=>HP.out W' x y _ _ (hB.trans (hW.mono hB.size)) HM.out HM2.out (RLin.below HRd.out hW) (RLin.below HRd2.out hW))
    have hA1:Below wr.heap.size wr (wr.alloc (.cells #[.int .i64 x.const,.slice ta1 x.terms.length tc1] 40)):=(zB _ _).alloc (zR _) _;have f0:=kAE d0 _ hA1;have f1:=kAE d1 _ hA1;clear hA1 d0 d1;by_cases hq:p x y=true
    · have HGo:=hJ (HG.out hq)
      rw [hq] at HB
      go_wp2_with (go_at_fn g;refine (HB.out _ (blw2 _ _ _)).mono ?_;rintro e w' ⟨rfl,hb'⟩)
      go_roundw
      case rel=>exact ⟨k+1,by omega,by go_num,HGo,(hB.trans ((blw2 _ _ _).mono hB.size)).trans (hb'.mono (zE hB.size (blw2 _ _ _).size))⟩
      case measure=>simp [intOf];omega
    · have hq:p x y=false:=by simpa using hq
      have HF:=hJ (HH.out hq);rw [hq] at HB
      go_wp2_with (go_at_fn g;refine (HB.out _ (blw2 _ _ _)).mono ?_;rintro e w' ⟨rfl,hb'⟩)
      go_ret;exact ⟨by rw [HF.out];rfl,(hB.trans ((blw2 _ _ _).mono hB.size)).trans (hb'.mono (zE hB.size (blw2 _ _ _).size))⟩
  · have HF:Hid (kBI p l l2=true):=hJ (eq_done p (by rw [H.out.len,H2.out.len]) fun j hj=>HT.out j (by rw [H.out.len] at hj;omega))
    go_wp2_with fail
    go_ret;exact ⟨by rw [HF.out];rfl,hB⟩
theorem kBJ {g:FuncId} {fn:Func} {c:Code} (hf:Tryz.prog.funcs[g]? =some fn) (hname:(fn.name== "runtime.NumGoroutine")=false) (hb:fn.body=some c):Ent1 g:=enters_of hf hname hb
theorem idx_any {α :Type} (p: α →Bool) (l:List α):decide (0≤idx p l)=l.any p:=by
 unfold idx;cases l.any p with
 | true=>rw [if_pos rfl];exact decide_eq_true (by omega)
 | false=>rw [if_neg (by simp)];rfl
def rowB (r:Str):Bool:=r.toList.isEmpty || kAZ r
def kAK (s:Shp):Bool:=rowB s.row && (decide (s.dims.length≤6) && !s.dims.any (fun x=> !kAB x))
def kAH (t:Typ):Bool:=kD1 t.elem && kAK t.shape
def kAI (s:Sch):Bool:=decide (s.params.length≤12) && (decide (s.wh.length≤60) && (!s.params.any (fun t=> !kAH t) && (kAH s.result && !s.wh.any (fun x=> !kAB x))))
def szH (s:Shp):Prop:=s.row.size≤10000∧∀ x ∈ s.dims,szL x
def szT (t:Typ):Prop:=t.elem.size≤10000∧szH t.shape
def szS (s:Sch):Prop:=(∀ t ∈ s.params,szT t)∧szT s.result∧∀ x ∈ s.wh,szL x
theorem kBX {S:Blk} {x:Lin} {cs:List Value} {w:World} (h:RLin.rd S w cs x) (hz:szL x) (E:Env w) :
 Calls Tryz.prog 66 #[.agg cs.toArray] w fun e w'=>e= .returned (.bool (kAB x))∧Below w.heap.size w w':=by
 obtain ⟨t,rfl,a,c,rfl,hs⟩:=h;exact kCM x a _ c w hs hz E
theorem kCH {S:Blk} {x:Lin} {cs:List Value} {w:World} (h:RLin.rd S w cs x) (hz:szL x) :
 Calls Tryz.prog 80 #[.agg cs.toArray] w fun e w'=>e= .returned (.bool (kAB x))∧Below w.heap.size w w':=by
 obtain ⟨t,rfl,a,c,rfl,hs⟩:=h;exact ref04_Valid x a _ c w hs hz
theorem shape_Valid_1 {S:Blk} {x:Lin} {cs:List Value} {w:World} (h:RLin.rd S w cs x) (hz:szL x) (E:Env w) :
 Calls Tryz.prog 200 #[.agg cs.toArray] w fun e w'=>e= .returned (.bool (!kAB x))∧Below w.heap.size w w':=by
 have B0:Hid (Below w.heap.size w (w.alloc (.cells cs.toArray 40))):=hJ ((zB _ _).alloc (zR _) _);have HC:=hJ (kBX (RLin.below h B0.out) hz (E.below B0.out));obtain ⟨t,rfl,ht⟩:=h;clear ht E;go_enter func200,ntmps200
 go_wp2_with fail
 refine (HC.out).mono ?_;rintro e w1 ⟨rfl,hb⟩
 go_wp2_with fail
 go_ret;exact ⟨rfl,B0.out.trans (hb.mono B0.out.size)⟩
theorem kH2 {S:Blk} {x:Lin} {cs:List Value} {w:World} (h:RLin.rd S w cs x) (hz:szL x) (E:Env w) :
 Calls Tryz.prog 65 #[.agg cs.toArray] w fun e w'=>e= .returned (.bool (!kAB x))∧Below w.heap.size w w':=by
 have B0:Hid (Below w.heap.size w (w.alloc (.cells cs.toArray 40))):=hJ ((zB _ _).alloc (zR _) _);have HC:=hJ (kBX (RLin.below h B0.out) hz (E.below B0.out));obtain ⟨t,rfl,ht⟩:=h;clear ht E;go_enter func65,ntmps65
 go_wp2_with fail
 refine (HC.out).mono ?_;rintro e w1 ⟨rfl,hb⟩
 go_wp2_with fail
 go_ret;exact ⟨rfl,B0.out.trans (hb.mono B0.out.size)⟩
theorem kG8 {S:Blk} (l:List Lin) (a:Option Addr) (n c:Nat) (w:World) (h:Sl RLin S w a n c l) (g:FuncId) (cp:Array Value) (hen:Ent1 g) (p:Lin→Bool)
 (hp:∀ (W:World) (x:Lin) (cs:List Value),Below w.heap.size w W→x ∈ l→RLin.rd S W cs x→Calls Tryz.prog g (#[.agg cs.toArray]++cp) W fun e w'=>e= .returned (.bool (p x))∧Below W.heap.size W w') :
 Calls Tryz.prog 64 #[.slice a n c,.func (.func g) #[] cp] w fun e w'=>e= .returned (.bool (l.any p))∧Below w.heap.size w w':=by
 have HC:=hJ (index_Lin l a n c w h g cp hen p hp);have HA:=hJ (idx_any p l);clear h hp;generalize idx p l=q at *;go_enter func64,ntmps64
 go_wp2_with fail
 refine (HC.out).mono ?_;rintro e w1 ⟨rfl,hb⟩
 go_wp2_with fail
 go_ret;exact ⟨by rw [← HA.out];rfl,hb⟩
theorem contains_Typ {S:Blk} (l:List Typ) (a:Option Addr) (n c:Nat) (w:World) (h:Sl RTyp S w a n c l) (g:FuncId) (cp:Array Value) (hen:Ent1 g) (p:Typ→Bool)
 (hp:∀ (W:World) (x:Typ) (cs:List Value),Below w.heap.size w W→x ∈ l→RTyp.rd S W cs x→Calls Tryz.prog g (#[.agg cs.toArray]++cp) W fun e w'=>e= .returned (.bool (p x))∧Below W.heap.size W w') :
 Calls Tryz.prog 63 #[.slice a n c,.func (.func g) #[] cp] w fun e w'=>e= .returned (.bool (l.any p))∧Below w.heap.size w w':=by
 have HC:=hJ (index_Typ l a n c w h g cp hen p hp);have HA:=hJ (idx_any p l);clear h hp;generalize idx p l=q at *;go_enter func63,ntmps63
 go_wp2_with fail
 refine (HC.out).mono ?_;rintro e w1 ⟨rfl,hb⟩
 go_wp2_with fail
 go_ret;exact ⟨by rw [← HA.out];rfl,hb⟩
theorem kDI {S:Blk} {s:Shp} {cs:List Value} {w:World} (h:RShp.rd S w cs s) (hz:szH s) (E:Env w) :
 Calls Tryz.prog 120 #[.agg cs.toArray] w fun e w'=>e= .returned (.bool (kAK s))∧Below w.heap.size w w':=by
 obtain ⟨t,rfl,a,c,rfl,hs⟩:=h;have HN:Hid (kAK s=(rowB s.row && (decide (s.dims.length≤6) && !s.dims.any (fun x=> !kAB x)))):=hJ rfl;have HROW:Hid (rowB s.row=(s.row.toList.isEmpty || kAZ s.row)):=hJ rfl;have hrz:s.row.size≤281474976710656:=zE hz.1 (by decide);have hmx:s.dims.length≤9223372036854775807:=by have:=hs.cap;have:=hs.max;unfold maxLen at this;omega
 have HS:=hJ hs;have HZ:=hJ hz;have EE:=hJ E;clear hs hz E
 -- what goes through the dimensions, in whatever later world
 have HCt:Hid (∀ W,Below w.heap.size w W→Calls Tryz.prog 64 #[.slice a s.dims.length c,.func (.func 200) #[] #[]] W fun e w'=>e= .returned (.bool (s.dims.any (fun x=> !kAB x)))∧Below W.heap.size W w') :=
  hJ (fun W hW=>kG8 s.dims a _ c W (HS.out.below hW) _ #[] (kBJ func200 rfl rfl) _ (fun W' x cs hb hx hr=>shape_Valid_1 hr (HZ.out.2 x hx) (EE.out.below (hW.trans (hb.mono hW.size)))))
 generalize s.dims.any (fun x=> !kAB x)=bad at *;generalize s.dims.length=n at *;have B0:Hid (Below w.heap.size w (w.alloc (.cells #[.string s.row,.slice a n c] 25))):=hJ ((zB _ _).alloc (zR _) _);have c0:(w.alloc (.cells #[.string s.row,.slice a n c] 25)).cell? ⟨w.heap.size,0,none⟩=some (.string s.row):=by simp [go_sem]
 have c1:(w.alloc (.cells #[.string s.row,.slice a n c] 25)).cell? ⟨w.heap.size,1,none⟩=some (.slice a n c):=by simp [go_sem]
 have E0:=hJ (EE.out.below B0.out);by_cases he:s.row.toList.isEmpty=true
 · have HN:Hid (kAK s=(decide (n≤6) && !bad)):=hJ (by rw [HN.out,HROW.out,he];rfl)
   by_cases h6:n≤6
   · have q6:decide ((n:Int)≤6)=true:=decide_eq_true (by omega)
     have HF:Hid (kAK s= !bad):=hJ (by rw [HN.out,decide_eq_true h6];rfl);go_enter func120,ntmps120
     go_wp2_with fail
     refine (HCt.out _ B0.out).mono ?_;rintro e w1 ⟨rfl,hb⟩
     go_wp2_with fail
     go_ret;exact ⟨by rw [HF.out];rfl,B0.out.trans (hb.mono B0.out.size)⟩
   · have q6:decide ((n:Int)≤6)=false:=decide_eq_false (by omega)
     have HF:Hid (kAK s=false):=hJ (by rw [HN.out,decide_eq_false h6];rfl);go_enter func120,ntmps120
     go_wp2_with fail
     go_ret;exact ⟨by rw [HF.out];rfl,B0.out⟩
 · have he:s.row.toList.isEmpty=false:=by simpa using he
   by_cases hnm:kAZ s.row=true
   · have HN:Hid (kAK s=(decide (n≤6) && !bad)):=hJ (by rw [HN.out,HROW.out,he,hnm];rfl)
     by_cases h6:n≤6
     · have q6:decide ((n:Int)≤6)=true:=decide_eq_true (by omega)
       have HF:Hid (kAK s= !bad):=hJ (by rw [HN.out,decide_eq_true h6];rfl);go_enter func120,ntmps120
       go_wp2_with fail
       refine (kBR _ hrz _ E0.out).mono ?_;rintro e w1 ⟨rfl,hb⟩;have d1:=kAE c1 _ hb;have hbb:=B0.out.trans (hb.mono B0.out.size)
       go_wp2_with fail
       refine (HCt.out _ hbb).mono ?_;rintro e w2 ⟨rfl,hb2⟩
       go_wp2_with fail
       go_ret;exact ⟨by rw [HF.out];rfl,hbb.trans (hb2.mono hbb.size)⟩
     · have q6:decide ((n:Int)≤6)=false:=decide_eq_false (by omega)
       have HF:Hid (kAK s=false):=hJ (by rw [HN.out,decide_eq_false h6];rfl);go_enter func120,ntmps120
       go_wp2_with fail
       refine (kBR _ hrz _ E0.out).mono ?_;rintro e w1 ⟨rfl,hb⟩;have d1:=kAE c1 _ hb
       go_wp2_with fail
       go_ret;exact ⟨by rw [HF.out];rfl,B0.out.trans (hb.mono B0.out.size)⟩
   · have hnm:kAZ s.row=false:=by simpa using hnm
     have HF:Hid (kAK s=false):=hJ (by rw [HN.out,HROW.out,he,hnm];rfl);go_enter func120,ntmps120
     go_wp2_with fail
     refine (kBR _ hrz _ E0.out).mono ?_;rintro e w1 ⟨rfl,hb⟩
     go_wp2_with fail
     go_ret;exact ⟨by rw [HF.out];rfl,B0.out.trans (hb.mono B0.out.size)⟩
theorem kDH {S:Blk} {x:Typ} {cs:List Value} {w:World} (h:RTyp.rd S w cs x) (hz:szT x) (E:Env w) :
 Calls Tryz.prog 62 #[.agg cs.toArray] w fun e w'=>e= .returned (.bool (kAH x))∧Below w.heap.size w w':=by
 obtain ⟨t,rfl,ht⟩:=h;have HN:Hid (kAH x=(((x.elem.toList==[105,110,116]) || ((x.elem.toList==[98,111,111,108]) || kAQ x.elem)) && kAK x.shape)):=hJ rfl;have hez:x.elem.size≤281474976710656:=zE hz.1 (by decide);have HT:=hJ ht;have HZ:=hJ hz.2;have EE:=hJ E;clear ht hz E
 have HV:Hid (∀ W,Below w.heap.size w W→Calls Tryz.prog 120 #[.agg #[.string x.shape.row,t]] W fun e w'=>e= .returned (.bool (kAK x.shape))∧Below W.heap.size W w') :=
  hJ (fun W hW=>kDI (RShp.below (S:=S) (w:=w) ⟨t,rfl,HT.out⟩ hW) HZ.out (EE.out.below hW))
 have B0:Hid (Below w.heap.size w (w.alloc (.cells #[.string x.elem,.string x.shape.row,t] 27))):=hJ ((zB _ _).alloc (zR _) _);have c0:(w.alloc (.cells #[.string x.elem,.string x.shape.row,t] 27)).cell? ⟨w.heap.size,0,none⟩=some (.string x.elem):=by simp [go_sem]
 have c1:(w.alloc (.cells #[.string x.elem,.string x.shape.row,t] 27)).cell? ⟨w.heap.size,1,none⟩=some (.string x.shape.row):=by simp [go_sem]
 have c2:(w.alloc (.cells #[.string x.elem,.string x.shape.row,t] 27)).cell? ⟨w.heap.size,2,none⟩=some t:=by simp [go_sem]
 by_cases h1:(x.elem.toList==[105,110,116])=true
 · have HF:Hid (kAH x=kAK x.shape):=hJ (by rw [HN.out,h1];rfl)
   go_enter func62,ntmps62
   go_wp2_with fail
   refine (HV.out _ B0.out).mono ?_;rintro e w1 ⟨rfl,hb⟩
   go_wp2_with fail
   go_ret;exact ⟨by rw [HF.out];rfl,B0.out.trans (hb.mono B0.out.size)⟩
 have h1:(x.elem.toList==[105,110,116])=false:=by simpa using h1
 by_cases h2:(x.elem.toList==[98,111,111,108])=true
 · have HF:Hid (kAH x=kAK x.shape):=hJ (by rw [HN.out,h1,h2];rfl)
   go_enter func62,ntmps62
   go_wp2_with fail
   refine (HV.out _ B0.out).mono ?_;rintro e w1 ⟨rfl,hb⟩
   go_wp2_with fail
   go_ret;exact ⟨by rw [HF.out];rfl,B0.out.trans (hb.mono B0.out.size)⟩
 have h2:(x.elem.toList==[98,111,111,108])=false:=by simpa using h2
 by_cases h3:kAQ x.elem=true
 · have HF:Hid (kAH x=kAK x.shape):=hJ (by rw [HN.out,h1,h2,h3];rfl)
   go_enter func62,ntmps62
   go_wp2_with fail
   refine (kCA _ hez _).mono ?_;rintro e w1 ⟨rfl,hb⟩;have d1:=kAE c1 _ hb;have d2:=kAE c2 _ hb;have hbb:=B0.out.trans (hb.mono B0.out.size)
   go_wp2_with fail
   refine (HV.out _ hbb).mono ?_;rintro e w2 ⟨rfl,hb2⟩
   go_wp2_with fail
   go_ret;exact ⟨by rw [HF.out];rfl,hbb.trans (hb2.mono hbb.size)⟩
 · have h3:kAQ x.elem=false:=by simpa using h3
   have HF:Hid (kAH x=false):=hJ (by rw [HN.out,h1,h2,h3];rfl);go_enter func62,ntmps62
   go_wp2_with fail
   refine (kCA _ hez _).mono ?_;rintro e w1 ⟨rfl,hb⟩
   go_wp2_with fail
   go_ret;exact ⟨by rw [HF.out];rfl,B0.out.trans (hb.mono B0.out.size)⟩
theorem kH3 {S:Blk} {x:Typ} {cs:List Value} {w:World} (h:RTyp.rd S w cs x) (hz:szT x) (E:Env w) :
 Calls Tryz.prog 61 #[.agg cs.toArray] w fun e w'=>e= .returned (.bool (!kAH x))∧Below w.heap.size w w':=by
 have B0:Hid (Below w.heap.size w (w.alloc (.cells cs.toArray 27))):=hJ ((zB _ _).alloc (zR _) _);have HC:=hJ (kDH (RTyp.below h B0.out) hz (E.below B0.out));obtain ⟨t,rfl,ht⟩:=h;clear ht E;go_enter func61,ntmps61
 go_wp2_with fail
 refine (HC.out).mono ?_;rintro e w1 ⟨rfl,hb⟩
 go_wp2_with fail
 go_ret;exact ⟨rfl,B0.out.trans (hb.mono B0.out.size)⟩
theorem kBK {S:Blk} {x:Sch} {cs:List Value} {w:World} (h:RSch.rd S w cs x) (hz:szS x) (E:Env w) :
 Calls Tryz.prog 16 #[.agg cs.toArray] w fun e w'=>e= .returned (.bool (kAI x))∧Below w.heap.size w w':=by
 obtain ⟨pv,t,qv,rfl,⟨ap,cp,rfl,hp⟩,ht,⟨aq,cq,rfl,hq⟩⟩:=h;have HN:Hid (kAI x=(decide (x.params.length≤12) && (decide (x.wh.length≤60) && (!x.params.any (fun t=> !kAH t) && (kAH x.result && !x.wh.any (fun x=> !kAB x)))))):=hJ rfl;have hmx:x.params.length≤9223372036854775807:=by have:=hp.cap;have:=hp.max;unfold maxLen at this;omega
 have hmy:x.wh.length≤9223372036854775807:=by have:=hq.cap;have:=hq.max;unfold maxLen at this;omega
 have HZ:=hJ hz;have EE:=hJ E;have HT:=hJ ht;have HP:=hJ hp;have HQ:=hJ hq;clear hz E ht hp hq
 have HV:Hid (∀ W,Below w.heap.size w W→Calls Tryz.prog 62 #[.agg #[.string x.result.elem,.string x.result.shape.row,t]] W fun e w'=>e= .returned (.bool (kAH x.result))∧Below W.heap.size W w') :=
  hJ (fun W hW=>kDH (RTyp.below (S:=S) (w:=w) ⟨t,rfl,HT.out⟩ hW) HZ.out.2.1 (EE.out.below hW))
 have HCp:Hid (∀ W,Below w.heap.size w W→Calls Tryz.prog 63 #[.slice ap x.params.length cp,.func (.func 61) #[] #[]] W fun e w'=>e= .returned (.bool (x.params.any (fun t=> !kAH t)))∧Below W.heap.size W w') :=
  hJ (fun W hW=>contains_Typ x.params ap _ cp W (HP.out.below hW) _ #[] (kBJ func61 rfl rfl) _ (fun W' x cs hb hx hr=>kH3 hr (HZ.out.1 x hx) (EE.out.below (hW.trans (hb.mono hW.size)))))
 have HCq:Hid (∀ W,Below w.heap.size w W→Calls Tryz.prog 64 #[.slice aq x.wh.length cq,.func (.func 65) #[] #[]] W fun e w'=>e= .returned (.bool (x.wh.any (fun x=> !kAB x)))∧Below W.heap.size W w') :=
  hJ (fun W hW=>kG8 x.wh aq _ cq W (HQ.out.below hW) _ #[] (kBJ func65 rfl rfl) _ (fun W' x cs hb hx hr=>kH2 hr (HZ.out.2.2 x hx) (EE.out.below (hW.trans (hb.mono hW.size)))))
 generalize x.params.any (fun t=> !kAH t)=badp at *;generalize x.wh.any (fun x=> !kAB x)=badq at *;generalize kAH x.result=okr at *;generalize x.params.length=np at *;generalize x.wh.length=nq at *;have B0:Hid (Below w.heap.size w (w.alloc (.cells #[.slice ap np cp,.string x.result.elem,.string x.result.shape.row,t,.slice aq nq cq] 29))):=hJ ((zB _ _).alloc (zR _) _);have c0:(w.alloc (.cells #[.slice ap np cp,.string x.result.elem,.string x.result.shape.row,t,.slice aq nq cq] 29)).cell? ⟨w.heap.size,0,none⟩=some (.slice ap np cp):=by simp [go_sem]
 have c1:(w.alloc (.cells #[.slice ap np cp,.string x.result.elem,.string x.result.shape.row,t,.slice aq nq cq] 29)).cell? ⟨w.heap.size,1,none⟩=some (.string x.result.elem):=by simp [go_sem]
 have c2:(w.alloc (.cells #[.slice ap np cp,.string x.result.elem,.string x.result.shape.row,t,.slice aq nq cq] 29)).cell? ⟨w.heap.size,2,none⟩=some (.string x.result.shape.row):=by simp [go_sem]
 have c3:(w.alloc (.cells #[.slice ap np cp,.string x.result.elem,.string x.result.shape.row,t,.slice aq nq cq] 29)).cell? ⟨w.heap.size,3,none⟩=some t:=by simp [go_sem]
 have c4:(w.alloc (.cells #[.slice ap np cp,.string x.result.elem,.string x.result.shape.row,t,.slice aq nq cq] 29)).cell? ⟨w.heap.size,4,none⟩=some (.slice aq nq cq):=by simp [go_sem]
 by_cases h12:np≤12
 case neg =>
  have q:decide ((np:Int)≤12)=false:=decide_eq_false (by omega);have HF:Hid (kAI x=false):=hJ (by rw [HN.out,decide_eq_false h12];rfl);go_enter func16,ntmps16
  go_wp2_with fail
  go_ret;exact ⟨by rw [HF.out];rfl,B0.out⟩
 have q12:decide ((np:Int)≤12)=true:=decide_eq_true (by omega);by_cases h60:nq≤60
 case neg =>
  have q:decide ((nq:Int)≤60)=false:=decide_eq_false (by omega);have HF:Hid (kAI x=false):=hJ (by rw [HN.out,decide_eq_false h60];simp);go_enter func16,ntmps16
  go_wp2_with fail
  go_ret;exact ⟨by rw [HF.out];rfl,B0.out⟩
 have q60:decide ((nq:Int)≤60)=true:=decide_eq_true (by omega);have HN:Hid (kAI x=(!badp && (okr && !badq))):=hJ (by rw [HN.out,decide_eq_true h12,decide_eq_true h60];rfl);go_enter func16,ntmps16
 go_wp2_with fail
 refine (HCp.out _ B0.out).mono ?_;rintro e w1 ⟨rfl,hb⟩;have hbb:=hJ (B0.out.trans (hb.mono B0.out.size));have d1:=kAE c1 _ hb;have d2:=kAE c2 _ hb;have d3:=kAE c3 _ hb;have d4:=kAE c4 _ hb;clear c0 c1 c2 c3 c4;cases badp with
 | true =>
   go_wp2_with fail
   go_ret;exact ⟨by rw [HN.out];rfl,hbb.out⟩
 | false =>
   go_wp2_with fail
   refine (HV.out _ hbb.out).mono ?_;rintro e w2 ⟨rfl,hb2⟩;have hbb2:=hJ (hbb.out.trans (hb2.mono hbb.out.size));have f4:=kAE d4 _ hb2;cases okr with
   | false =>
     go_wp2_with fail
     go_ret;exact ⟨by rw [HN.out];rfl,hbb2.out⟩
   | true =>
     go_wp2_with fail
     refine (HCq.out _ hbb2.out).mono ?_;rintro e w3 ⟨rfl,hb3⟩
     go_wp2_with fail
     go_ret;exact ⟨by rw [HN.out];rfl,hbb2.out.trans (hb3.mono hbb2.out.size)⟩
theorem any_bad {α :Type} [Inhabited α] {p: α →Bool} {l:List α} {k:Nat} (hk:k<l.length) (h:p (l.getD k default)=false):l.any (fun x=> !p x)=true :=
 List.any_eq_true.2 ⟨_,kAM hk,by rw [h];rfl⟩
theorem kHT {α :Type} [Inhabited α] {p: α →Bool} {l:List α} (h:∀ j,j<l.length→p (l.getD j default)=true):l.any (fun x=> !p x)=false:=by
 rw [List.any_eq_false];intro x hx;obtain ⟨i,hi⟩:=List.mem_iff_getElem?.1 hx
 have hlt:i<l.length:=by
  rcases zF i l.length with q | q
  · exact q
  · rw [List.getElem?_eq_none q] at hi;cases hi
 have:=h i hlt;rw [zD,hi] at this;simp only [Option.getD_some] at this;rw [this];decide
theorem upto {p:Nat→Prop} {k:Nat} (h:∀ j,j<k→p j) (hk:p k):∀ j,j<k+1→p j:=fun j hj=>by
 rcases zF j k with r | r
 · exact h j r
 · obtain rfl:j=k:=by omega
   exact hk
theorem kF5 {S:Blk} {s:Shp} {cs:List Value} {w:World} (h:RShp.rd S w cs s) (hz:szH s) :
 Calls Tryz.prog 137 #[.agg cs.toArray] w fun e w'=>e= .returned (.bool (kAK s))∧Below w.heap.size w w':=by
 obtain ⟨t,rfl,a,c,rfl,hs⟩:=h;have HN:Hid (kAK s=((s.row.toList.isEmpty || kAZ s.row) && (decide (s.dims.length≤6) && !s.dims.any (fun x=> !kAB x)))):=hJ rfl;have hrz:s.row.size≤281474976710656:=zE hz.1 (by decide);have hmx:s.dims.length≤9223372036854775807:=by have:=hs.cap;have:=hs.max;unfold maxLen at this;omega
 have HZ:=hJ hz;clear hz;have B0:Hid (Below w.heap.size w (w.alloc (.cells #[.string s.row,.slice a s.dims.length c] 25))):=hJ ((zB _ _).alloc (zR _) _);have c0:(w.alloc (.cells #[.string s.row,.slice a s.dims.length c] 25)).cell? ⟨w.heap.size,0,none⟩=some (.string s.row):=by simp [go_sem]
 have c1:(w.alloc (.cells #[.string s.row,.slice a s.dims.length c] 25)).cell? ⟨w.heap.size,1,none⟩=some (.slice a s.dims.length c):=by simp [go_sem]
 have HS:=hJ (hs.below B0.out);clear hs;generalize hn:s.dims.length=n at *;have HL:=hJ hn;clear hn;go_enter func137,ntmps137
 go_wp2_with fail
 generalize (w.alloc (.cells #[.string s.row,.slice a n c] 25))=W at *
 go_loopw [3] (fun i wr=>∃ k:Nat,k≤n∧i= .int .i64 k∧Hid (∀ j,j<k→kAB (s.dims.getD j default)=true)∧Below W.heap.size W wr) (fun i _=>n - (intOf i).toNat)
 case atStart=>exact ⟨0,Nat.zero_le _,rfl,fun j hj=>absurd hj (by omega),zB _ _⟩
 case round =>
  obtain ⟨k,hk,rfl,HT,hB⟩:=hrel;have d1:=kAE c1 _ hB;by_cases hlt:k<n
  · obtain ⟨b,off,rfl,hbW,_⟩:=HS.out.form k hlt
    have HK:Hid (k<s.dims.length):=hJ (by rw [HL.out];exact hlt);have HR:=hJ (HS.out.below hB);obtain ⟨t,hr,hd,e0,e1⟩:=HR.out.lin k hlt;have HC:=hJ (kCH hr (HZ.out.2 _ (kAM HK.out)));by_cases hq:kAB (s.dims.getD k default)=true
    · have HGo:=hJ (upto HT.out hq)
      rw [hq] at HC;clear hd hr hq c0 c1;generalize s.dims.getD k default=x at *
      go_wp2_with fail
      refine (HC.out).mono ?_;rintro e w1 ⟨rfl,hb⟩
      go_wp2_with fail
      go_roundw
      case rel=>exact ⟨k+1,by omega,by go_num,HGo,hB.trans (hb.mono hB.size)⟩
      case measure=>simp [intOf];omega
    · have hq:kAB (s.dims.getD k default)=false:=by simpa using hq
      have HF:Hid (kAK s=false):=hJ (by rw [HN.out,any_bad HK.out hq];simp);rw [hq] at HC;clear hd hr hq c0 c1;generalize s.dims.getD k default=x at *
      go_wp2_with fail
      refine (HC.out).mono ?_;rintro e w1 ⟨rfl,hb⟩
      go_wp2_with fail
      go_ret;exact ⟨by rw [HF.out];rfl,B0.out.trans ((hB.trans (hb.mono hB.size)).mono B0.out.size)⟩
  · have HN:Hid (kAK s=((s.row.toList.isEmpty || kAZ s.row) && decide (n≤6))):=hJ (by
     rw [HN.out,kHT (fun j hj=>HT.out j (by rw [HL.out] at hj;omega))];simp)
    have d0:=kAE c0 _ hB;clear c0 c1;by_cases h6:n≤6
    case neg =>
     have q6:decide ((n:Int)≤6)=false:=decide_eq_false (by omega);have HF:Hid (kAK s=false):=hJ (by rw [HN.out,decide_eq_false h6];simp)
     go_wp2_with fail
     go_ret;exact ⟨by rw [HF.out];rfl,B0.out.trans (hB.mono B0.out.size)⟩
    have q6:decide ((n:Int)≤6)=true:=decide_eq_true (by omega);by_cases he:s.row.toList.isEmpty=true
    · have HF:Hid (kAK s=true):=hJ (by rw [HN.out,decide_eq_true h6,he];rfl)
      go_wp2_with fail
      go_ret;exact ⟨by rw [HF.out];rfl,B0.out.trans (hB.mono B0.out.size)⟩
    · have he:s.row.toList.isEmpty=false:=by simpa using he
      have HF:Hid (kAK s=kAZ s.row):=hJ (by rw [HN.out,decide_eq_true h6,he];simp)
      go_wp2_with fail
      refine (kCO _ _ hrz).mono ?_;rintro e _ ⟨rfl,rfl⟩
      go_wp2_with fail
      go_ret;exact ⟨by rw [HF.out];rfl,B0.out.trans (hB.mono B0.out.size)⟩
theorem kH8 {S:Blk} {x:Typ} {cs:List Value} {w:World} (h:RTyp.rd S w cs x) (hz:szT x) :
 Calls Tryz.prog 79 #[.agg cs.toArray] w fun e w'=>e= .returned (.bool (kAH x))∧Below w.heap.size w w':=by
 obtain ⟨t,rfl,ht⟩:=h;have HN:Hid (kAH x=(kD1 x.elem && kAK x.shape)):=hJ rfl;have hez:x.elem.size≤281474976710656:=zE hz.1 (by decide);have HT:=hJ ht;have HZ:=hJ hz.2;clear ht hz
 have HV:Hid (∀ W,Below w.heap.size w W→Calls Tryz.prog 137 #[.agg #[.string x.shape.row,t]] W fun e w'=>e= .returned (.bool (kAK x.shape))∧Below W.heap.size W w') :=
  hJ (fun W hW=>kF5 (RShp.below (S:=S) (w:=w) ⟨t,rfl,HT.out⟩ hW) HZ.out)
 have B0:Hid (Below w.heap.size w (w.alloc (.cells #[.string x.elem,.string x.shape.row,t] 27))):=hJ ((zB _ _).alloc (zR _) _);have c0:(w.alloc (.cells #[.string x.elem,.string x.shape.row,t] 27)).cell? ⟨w.heap.size,0,none⟩=some (.string x.elem):=by simp [go_sem]
 have c1:(w.alloc (.cells #[.string x.elem,.string x.shape.row,t] 27)).cell? ⟨w.heap.size,1,none⟩=some (.string x.shape.row):=by simp [go_sem]
 have c2:(w.alloc (.cells #[.string x.elem,.string x.shape.row,t] 27)).cell? ⟨w.heap.size,2,none⟩=some t:=by simp [go_sem]
 by_cases h3:kD1 x.elem=true
 · have HF:Hid (kAH x=kAK x.shape):=hJ (by rw [HN.out,h3];rfl)
   go_enter func79,ntmps79
   go_wp2_with fail
   refine (ref11_Elem _ hez _).mono ?_;rintro e _ ⟨rfl,rfl⟩
   go_wp2_with fail
   refine (HV.out _ B0.out).mono ?_;rintro e w1 ⟨rfl,hb⟩
   go_wp2_with fail
   go_ret;exact ⟨by rw [HF.out];rfl,B0.out.trans (hb.mono B0.out.size)⟩
 · have h3:kD1 x.elem=false:=by simpa using h3
   have HF:Hid (kAH x=false):=hJ (by rw [HN.out,h3];rfl);go_enter func79,ntmps79
   go_wp2_with fail
   refine (ref11_Elem _ hez _).mono ?_;rintro e _ ⟨rfl,rfl⟩
   go_wp2_with fail
   go_ret;exact ⟨by rw [HF.out];rfl,B0.out⟩
theorem kEW {α :Type} {R:Rep α} {P:Program} {T E:TypeId} {bytes:Nat} (he:ElemOf P T E R.size bytes) {ops:Array Oper} {o:Oper} {a:Act} {K:Act→World→Prop} {Q:Exit→Act→World→Prop} {w:World} {C:Prop} (hgd:o.guard=none) (s x:Operand)
 (ho:o.op= .call { callee:=.builtin .append,args:=#[s,x],argTypes:=#[T,T] }) {S:Blk} (base:Nat) (v:Value) (l:List α) (hs:a.eval s=v) (hown:Own R E S w base v l) (b:Nat) (y: α) (cs:List Value)
 (hx:a.eval x= .slice (some ⟨b,0,none⟩) 1 1) (hy:R.rd (fun k=>S k∧v.ownBlock≠some k) w cs y) (hc:∀ j u,cs[j]? =some u→w.cell? ⟨b,j,none⟩=some u) (hlen:(l.length+1) * bytes≤140737488355328) (hmax:l.length+1≤maxLen) (hbase:base≤w.heap.size)
 (h:∀ v' w',Own R E S w' base v' (l++[y])→Below base w w'→Kp v v' w w'→K (a.put o.dst v') w'):if Region.wanted o (yielded ops a.tmps)=true then Oper.wp P o a w K Q else C:=by
 have hw:Region.wanted o (yielded ops a.tmps)=true:=by simp [Region.wanted,hgd]
 rw [if_pos hw]
 obtain ⟨v',w',h1,h2,h3,h4⟩:=hown.run_app he (l':=[y]) o.type (some ⟨b,0,none⟩) 1 1 rfl (by intro h;cases h) (fun i z hz=>by
  cases i with
  | zero=>simp at hz;subst hz;exact ⟨b,0,cs,rfl,hy,fun j u hu=>by rw [Nat.zero_add,Nat.zero_mul,Nat.zero_add];exact hc j u hu⟩
  | succ i=>simp at hz) hlen hmax hbase
 unfold Oper.wp;simp [execOp,ho,resolve,invoke,builtin,hs,hx,h1,Result.andThen];exact h v' w' h2 h3 h4
theorem step_sl {α :Type} {R:Rep α} {P:Program} {T E:TypeId} {bytes:Nat} (he:ElemOf P T E R.size bytes) {ops:Array Oper} {o:Oper} {a:Act} {K:Act→World→Prop} {Q:Exit→Act→World→Prop} {w:World} {C:Prop} (hgd:o.guard=none) (s x:Operand)
 (ho:o.op= .call { callee:=.builtin .append,args:=#[s,x],argTypes:=#[T,T] }) {S:Blk} (base:Nat) (v:Value) (l l':List α) (hs:a.eval s=v) (hown:Own R E S w base v l) (ao:Option Addr) (m c:Nat)
 (hx:a.eval x= .slice ao m c) (hy:Sl R (fun k=>S k∧v.ownBlock≠some k) w ao m c l') (hlen:(l.length+m) * bytes≤140737488355328) (hmax:l.length+m≤maxLen) (hbase:base≤w.heap.size)
 (h:∀ v' w',Own R E S w' base v' (l++l')→Below base w w'→Kp v v' w w'→K (a.put o.dst v') w'):if Region.wanted o (yielded ops a.tmps)=true then Oper.wp P o a w K Q else C:=by
 have hw:Region.wanted o (yielded ops a.tmps)=true:=by simp [Region.wanted,hgd]
 rw [if_pos hw];obtain ⟨v',w',h1,h2,h3,h4⟩:=hown.run_app he (l':=l') o.type ao m c hy.len hy.nil (fun i z hz=>let ⟨b,off,cs,e,_,r,q⟩:=hy.at_ i z hz;⟨b,off,cs,e,r,q⟩) hlen hmax hbase;unfold Oper.wp;simp [execOp,ho,resolve,invoke,builtin,hs,hx,h1,Result.andThen];exact h v' w' h2 h3 h4
theorem Own.fresh {α :Type} (R:Rep α) (E:TypeId) (S:Blk) (w:World):Own R E S (w.alloc (.cells #[] E)) w.heap.size (.slice (some ⟨w.heap.size,0,none⟩) 0 0) [] :=
 ⟨⟨[],rfl,⟨by simp,.inr ⟨w.heap.size,0,#[],rfl,zR _,by show (w.heap.push _)[w.heap.size]? =_;simp,zR _,by unfold maxLen;omega,by simp,by simp⟩⟩,fun i x h=>by simp at h⟩⟩
theorem Own.at0 {α :Type} (R:Rep α) (E:TypeId) (S:Blk) {w:World} {g base:Nat} (h:w.heap[g]? =some (.cells #[] E (0,0))) (hb:base≤g):Own R E S w base (.slice (some ⟨g,0,none⟩) 0 0) [] :=
 ⟨⟨[],rfl,⟨by simp,.inr ⟨g,0,#[],rfl,hb,h,zR _,by unfold maxLen;omega,by simp,by simp⟩⟩,fun i x h=>by simp at h⟩⟩
theorem Sl.later {α :Type} {R:Rep α} {S:Blk} {w w':World} {a:Option Addr} {n c:Nat} {l:List α} (h:Sl R S w a n c l) (hb:Below w.heap.size w w') {v:Value} (hv:∀ k,v.ownBlock=some k→w.heap.size≤k):Sl R (fun k=>S k∧v.ownBlock≠some k) w' a n c l :=
 (h.mono fun k hk hlt=>⟨hk,fun e=>by have:=hv k e;omega⟩).below hb
theorem Rep.later {α :Type} (R:Rep α) {S:Blk} {w w':World} {cs:List Value} {x: α} (h:R.rd S w cs x) (hb:Below w.heap.size w w') {v:Value} (hv:∀ k,v.ownBlock=some k→w.heap.size≤k):R.rd (fun k=>S k∧v.ownBlock≠some k) w' cs x :=
 R.below (R.mono h fun k hk hlt=>⟨hk,fun e=>by have:=hv k e;omega⟩) hb
theorem Own.base_le {α :Type} {R:Rep α} {E:TypeId} {S:Blk} {w:World} {base:Nat} {v:Value} {l:List α} (h:Own R E S w base v l):∀ k,v.ownBlock=some k→base≤k:=fun k hk=>(h.block hk).1
theorem kAJ (w:World):w.drew.heap=w.heap:=rfl
theorem kAF (w:World) (o:Obj):(w.alloc o).heap=w.heap.push o:=rfl
theorem cells3 {w:World} {g:Nat} {a b c:Value} {E:TypeId} {m:Nat × Nat} (h:w.heap[g]? =some (.cells #[a,b,c] E m)):∀ j u,[a,b,c][j]? =some u→w.cell? ⟨g,j,none⟩=some u:=by
 intro j u hu
 match j,hu with
 | 0,hu=>simp at hu;subst hu;simp [World.cell?,h]
 | 1,hu=>simp at hu;subst hu;simp [World.cell?,h]
 | 2,hu=>simp at hu;subst hu;simp [World.cell?,h]
theorem kA3 (E:TypeId) {w:World} {g:Nat} {cs:List Value} (h:w.heap[g]? =some (.cells cs.toArray E (0,0))):∀ j u,cs[j]? =some u→w.cell? ⟨g,j,none⟩=some u:=by
 intro j u hu;simp [World.cell?,h,hu]
theorem kG7:ElemOf Tryz.prog 22 27 RTyp.size 56:=⟨by kernel_rfl,by kernel_rfl⟩
theorem kFN {S:Blk} {x:Sch} {cs:List Value} {w:World} (h:RSch.rd S w cs x) (hn:x.params.length≤1000000) :
 Calls Tryz.prog 17 #[.agg cs.toArray] w fun e w'=>(∃ v,e= .returned v∧Own RTyp 27 S w' w.heap.size v (x.params++[x.result]))∧Below w.heap.size w w':=by
 obtain ⟨pv,t,qv,rfl,⟨ap,cp,rfl,hp⟩,ht,⟨aq,cq,rfl,hq⟩⟩:=h;have HP:=hJ hp;have HT:=hJ ht;clear hp ht hq;have B0:Hid (Below w.heap.size w (w.alloc (.cells #[.slice ap x.params.length cp,.string x.result.elem,.string x.result.shape.row,t,.slice aq x.wh.length cq] 29))):=hJ ((zB _ _).alloc (zR _) _);have c0:(w.alloc (.cells #[.slice ap x.params.length cp,.string x.result.elem,.string x.result.shape.row,t,.slice aq x.wh.length cq] 29)).cell? ⟨w.heap.size,0,none⟩=some (.slice ap x.params.length cp):=by simp [go_sem]
 have c1:(w.alloc (.cells #[.slice ap x.params.length cp,.string x.result.elem,.string x.result.shape.row,t,.slice aq x.wh.length cq] 29)).cell? ⟨w.heap.size,1,none⟩=some (.string x.result.elem):=by simp [go_sem]
 have c2:(w.alloc (.cells #[.slice ap x.params.length cp,.string x.result.elem,.string x.result.shape.row,t,.slice aq x.wh.length cq] 29)).cell? ⟨w.heap.size,2,none⟩=some (.string x.result.shape.row):=by simp [go_sem]
 have c3:(w.alloc (.cells #[.slice ap x.params.length cp,.string x.result.elem,.string x.result.shape.row,t,.slice aq x.wh.length cq] 29)).cell? ⟨w.heap.size,3,none⟩=some t:=by simp [go_sem]
 have hsz:w.heap.size<(w.alloc (.cells #[.slice ap x.params.length cp,.string x.result.elem,.string x.result.shape.row,t,.slice aq x.wh.length cq] 29)).heap.size:=by simp
 go_enter func17,ntmps17
 go_wp2_with fail
 generalize (w.alloc (.cells #[.slice ap x.params.length cp,.string x.result.elem,.string x.result.shape.row,t,.slice aq x.wh.length cq] 29))=W at *;have HP:=hJ (HP.out.below B0.out);have HT:=hJ (HT.out.frame (fun k _ hk=>B0.out.block k hk));have h0:∀ k,(Value.slice (some ⟨W.heap.size,0,none⟩) 0 0).ownBlock=some k→W.heap.size≤k:=by intro k e;simp [Value.ownBlock] at e;omega
 have h1:∀ k,(Value.slice (some ⟨W.heap.size+1,0,none⟩) 0 0).ownBlock=some k→W.heap.size≤k:=by intro k e;simp [Value.ownBlock] at e;omega
 go_region_law (first
  | (refine step_sl kG7 rfl (.tmp 3) (.tmp 5) rfl W.heap.size _ [] x.params rfl (Own.at0 RTyp _ S (by (simp only [kAJ,kAF,Array.getElem?_push,Array.size_push];simp)) (by simp)) ap _ cp rfl (HP.out.later (by go_grown) (by assumption)) (by simp;omega) (by unfold maxLen;simp;omega) (by simp <;> omega) ?_
     intro v4 w4 hown4 hb4 hk4
     change Kp (.slice (some ⟨_,0,none⟩) 0 0) v4 _ w4 at hk4
     have hB4:Below W.heap.size W w4:=Below.trans (by go_grown) hb4;have e1:=kAE c1 _ hB4;have e2:=kAE c2 _ hB4;have e3:=kAE c3 _ hB4)
  | (refine kEW kG7 rfl (.tmp 6) (.tmp 9) rfl W.heap.size _ _ rfl (by first | exact hown4 | exact hown4.alloc _) _ x.result [.string x.result.elem,.string x.result.shape.row,t] rfl ?ry ?rc ?rl ?rm ?rb ?_
     case ry=>first | exact Rep.later RTyp (w:=W) (S:=S) ⟨t,rfl,HT.out⟩ (by first | exact hB4 | exact hB4.alloc hB4.size _) hown4.base_le
     case rc=>first | exact cells3 (E:=27) (m:=(0,0)) (by first | (simp only [kAJ,kAF,Array.getElem?_push,Array.size_push];simp) | exact (hk4.block _ (by simp <;> omega) (by simp [Value.ownBlock])).trans (by (simp only [kAJ,kAF,Array.getElem?_push,Array.size_push];simp)))
     case rl=>first | (simp;omega)
     case rm=>first | (unfold maxLen;simp;omega)
     case rb=>first | exact hB4.size | exact (hB4.alloc hB4.size _).size
     intro v5 w5 hown5 hb5 hk5;have hB5:Below W.heap.size W w5:=Below.trans (by first | exact hB4 | exact hB4.alloc hB4.size _) hb5))
 all_goals go_wp2_with fail
 all_goals go_ret
 all_goals exact ⟨⟨v5,rfl,by have:=hown5.lower (Nat.le_of_lt hsz);rwa [List.nil_append] at this⟩,B0.out.trans (hB5.mono B0.out.size)⟩
theorem kFX {a w:World} (h:Below a.heap.size a w) (o:Obj):Below a.heap.size a (w.alloc o):=h.alloc h.size o
theorem kHS {a w:World} (h:Below a.heap.size a w):Below a.heap.size a w.drew:=h.drew
theorem kEO:ElemOf Tryz.prog 81 9 RStr.size 16:=⟨by kernel_rfl,by kernel_rfl⟩
theorem kAU {α :Type} [Inhabited α] {l:List α} {k:Nat} (h:k<l.length):l.take (k+1)=l.take k++[l.getD k default]:=by
 rw [List.take_add_one,kFA h];rfl
def kAL (x:Lin):List Str:=x.terms.map Coef.v
theorem kGA {S:Blk} (x:Lin) (a:Option Addr) (n c:Nat) (w:World) (h:Sl kA7 S w a n c x.terms) (hn:n≤1000000) :
 Calls Tryz.prog 70 #[.agg #[.int .i64 x.const,.slice a n c]] w fun e w'=>(∃ v,e= .returned v∧Own RStr 9 (fun _=>False) w' w.heap.size v (kAL x))∧Below w.heap.size w w':=by
 have H:=hJ h;clear h;have B0:Hid (Below w.heap.size w (w.alloc (.cells #[.int .i64 x.const,.slice a n c] 40))):=hJ ((zB _ _).alloc (zR _) _);have hbox:(w.alloc (.cells #[.int .i64 x.const,.slice a n c] 40)).cell? ⟨w.heap.size,1,none⟩=some (.slice a n c):=by simp [go_sem]
 go_enter func70,ntmps70
 go_wp2_with fail
 generalize (w.alloc (.cells #[.int .i64 x.const,.slice a n c] 40))=W at *;have H0:=hJ (H.out.below B0.out)
 go_loopw [3,9] (fun v i wr=>∃ k:Nat,k≤n∧i= .int .i64 k∧Hid (Own RStr 9 (fun _=>False) wr W.heap.size v ((kAL x).take k))∧Below W.heap.size W wr) (fun _ i _=>n - (intOf i).toNat)
 case atStart=>exact ⟨0,Nat.zero_le _,rfl,Own.nil _ _ _ _ _,zB _ _⟩
 case round =>
  obtain ⟨k,hk,rfl,HO,hB⟩:=hrel;by_cases hlt:k<n
  · obtain ⟨b,off,rfl,hbW,_⟩:=H0.out.form k hlt
    have HR:=hJ (H0.out.below hB);obtain ⟨c0,c1⟩:=HR.out.coef k hlt;have HK:Hid (k<x.terms.length):=hJ (by rw [H.out.len];exact hlt)
    have HV:Hid ((kAL x).take (k+1)=(kAL x).take k++[(x.terms.getD k default).v]):=hJ (by
     unfold kAL;rw [List.map_take.symm,List.map_take.symm,kAU HK.out,List.map_append];rfl)
    have hvl:((kAL x).take k).length=k:=by
     rw [zN];unfold kAL;rw [List.length_map,H.out.len];omega
    have HVL:=hJ hvl;clear hvl;generalize x.terms.getD k default=t at *
    go_wp2_with (at_builtin;refine kA1 kEO rfl _ _ rfl W.heap.size _ _ rfl ((HO.out.alloc _).alloc _) _ (t.v) [.string t.v] rfl (rfl) (kA3 9 (by (simp only [kAJ,kAF,Array.getElem?_push,Array.size_push];simp))) (by rw [HVL.out];omega) (by unfold maxLen;rw [HVL.out];omega) (by have:=hB.size;simp;omega) ?_;intro v9 w9 hown9 hb9 hk9)
    have hB9:Below W.heap.size W w9:=Below.trans (by (repeat (first | assumption | exact zB _ _ | exact Hid.out (by assumption) | refine kFX ?_ _ | refine kHS ?_))) hb9;go_roundw
    case rel=>exact ⟨k+1,by omega,by go_num,hJ (by rw [HV.out];exact hown9),hB9⟩
    case measure=>simp [intOf];omega
  · have HF:Hid ((kAL x).take k=kAL x):=hJ (by
     rw [zT];unfold kAL;rw [List.length_map,H.out.len];omega)
    go_wp2_with fail
    go_ret;exact ⟨⟨_,rfl,by have:=HO.out.lower B0.out.size;rwa [HF.out] at this⟩,B0.out.trans (hB.mono B0.out.size)⟩
def kC1 (a b:Coef):Bool:=seq a.v b.v && a.c==b.c
def kCN (a b:Lin):Bool:=a.const==b.const && kBI kC1 a.terms b.terms
def kG6 (a b:Shp):Bool:=seq a.row b.row && kBI kCN a.dims b.dims
def kI6 (a b:Typ):Bool:=seq a.elem b.elem && kG6 a.shape b.shape
def eqSch (a b:Sch):Bool:=kBI kI6 a.params b.params && (kI6 a.result b.result && kBI kCN a.wh b.wh)
theorem kIY (x y:Coef) (w:World):(binOp .neq 44 (.agg #[.string x.v,.int .i64 x.c]) (.agg #[.string y.v,.int .i64 y.c])).run Tryz.prog w= .ok (.bool (!kC1 x y)) w:=by
 have hS:Tryz.prog.underlying 44=some (.struct (Tryz.prog.fieldsOf 44)):=by kernel_rfl
 have hp:Tryz.prog.stoodInHeld 44=false:=by kernel_rfl
 have u3:=underlying3;have a3:=isAgg3;have u9:=underlying9;have a9:=isAgg9;rw [run_neq_struct,show (10000:Nat)=9999+1 from rfl,run_equalIn_agg w 9999 44 _ _ hS hp];simp only [Program.fieldsOf,underlying44]
 go_simp
 unfold kC1 seq;by_cases h1:x.v.toList=y.v.toList <;> by_cases h2:x.c=y.c <;> simp [h1,h2]
theorem kFL {S T:Blk} (l l2:List Coef) (a a2:Option Addr) (n n2 c c2:Nat) (w:World) (h:Sl kA7 S w a n c l) (h2:Sl kA7 T w a2 n2 c2 l2) :
 Calls Tryz.prog 78 #[.slice a n c,.slice a2 n2 c2] w fun e w'=>e= .returned (.bool (kBI kC1 l l2))∧Below w.heap.size w w':=by
 have H:=hJ h;have H2:=hJ h2;have hn:n≤9223372036854775807:=by have:=h.cap;have:=h.max;unfold maxLen at this;omega
 have hn2:n2≤9223372036854775807:=by have:=h2.cap;have:=h2.max;unfold maxLen at this;omega
 clear h h2;by_cases hnn:n=n2
 case neg =>
  have HF:Hid (kBI kC1 l l2=false):=hJ (eq_len _ (by rw [H.out.len,H2.out.len];exact hnn));have q:((n:Int) != (n2:Int))=true:=bne_iff_ne.2 (by omega);go_enter func78,ntmps78
  go_wp2_with fail
  go_ret;exact ⟨by rw [HF.out];rfl,zB _ _⟩
 subst hnn;go_enter func78,ntmps78
 go_wp2_with fail
 go_loopw [13] (fun i wr=>∃ k:Nat,k≤n∧i= .int .i64 k∧Hid (∀ j,j<k→kC1 (l.getD j default) (l2.getD j default)=true)∧Below w.heap.size w wr) (fun i _=>n - (intOf i).toNat)
 case atStart=>exact ⟨0,Nat.zero_le _,rfl,fun j hj=>absurd hj (by omega),zB _ _⟩
 case round =>
  obtain ⟨k,hk,rfl,HT,hB⟩:=hrel;by_cases hlt:k<n
  · obtain ⟨b,off,rfl,hbW,_⟩:=H.out.form k hlt
    obtain ⟨b2,off2,rfl,hbW2,_⟩:=H2.out.form k hlt;have HK:Hid (k<l.length):=hJ (by rw [H.out.len];exact hlt);have HK2:Hid (k<l2.length):=hJ (by rw [H2.out.len];exact hlt);have HR:=hJ (H.out.below hB);have HR2:=hJ (H2.out.below hB);obtain ⟨c0,c1⟩:=HR.out.coef k hlt;obtain ⟨d0,d1⟩:=HR2.out.coef k hlt;have HH:Hid (kC1 (l.getD k default) (l2.getD k default)=false→kBI kC1 l l2=false):=hJ (fun q=>eq_stop _ HK.out HK2.out q);have HG:Hid (kC1 (l.getD k default) (l2.getD k default)=true→∀ j,j<k+1→kC1 (l.getD j default) (l2.getD j default)=true):=hJ (fun q=>upto HT.out q);have HE:Hid (kC1 (l.getD k default) (l2.getD k default)=(((l.getD k default).v.toList==(l2.getD k default).v.toList) && ((l.getD k default).c==(l2.getD k default).c))):=hJ rfl;generalize l.getD k default=x at *;generalize l2.getD k default=y at *;have c0:=Later.cell c0;have c1:=Later.cell c1;have d0:=Later.cell d0;have d1:=Later.cell d1;have hgd:∀ (o o2:Operand) (xs ys:Array Value) w,(eqGuard .neq 44 o o2 (.agg xs) (.agg ys)).run Tryz.prog w= .ok () w:=fun o o2 xs ys w=>run_eqGuard_agg w .neq _ o o2 xs ys (by kernel_rfl)
    by_cases hq:kC1 x y=true
    · have HGo:=hJ (HG.out hq)
      have hbin:∀ w,(binOp .neq 44 (.agg #[.string x.v,.int .i64 x.c]) (.agg #[.string y.v,.int .i64 y.c])).run Tryz.prog w= .ok (.bool false) w:=fun w=>by rw [kIY,hq];rfl
      clear hq
      go_wp2_with fail
      refine kAC (by kernel_rfl) (by kernel_rfl) ?_
      repeat (go_big_quiet_step (fail))
      refine wpQuiet_nil ?_;rintro _ ⟨t9,rfl⟩
      go_wp2_with fail
      go_roundw
      case rel=>exact ⟨k+1,by omega,by go_num,HGo,hB.trans (t9.b.mono hB.size)⟩
      case measure=>simp [intOf];omega
    · have hq:kC1 x y=false:=by simpa using hq
      have HF:=hJ (HH.out hq);have hbin:∀ w,(binOp .neq 44 (.agg #[.string x.v,.int .i64 x.c]) (.agg #[.string y.v,.int .i64 y.c])).run Tryz.prog w= .ok (.bool true) w:=fun w=>by rw [kIY,hq];rfl
      clear hq
      go_wp2_with fail
      refine kAC (by kernel_rfl) (by kernel_rfl) ?_
      repeat (go_big_quiet_step (fail))
      refine wpQuiet_nil ?_;rintro _ ⟨t9,rfl⟩
      go_wp2_with fail
      go_ret;exact ⟨by rw [HF.out];rfl,hB.trans (t9.b.mono hB.size)⟩
  · have HF:Hid (kBI kC1 l l2=true):=hJ (eq_done _ (by rw [H.out.len,H2.out.len]) fun j hj=>HT.out j (by rw [H.out.len] at hj;omega))
    go_wp2_with fail
    go_ret;exact ⟨by rw [HF.out];rfl,hB⟩
theorem eqLin_cases (a b:Lin):kCN a b=(a.const==b.const && kBI kC1 a.terms b.terms):=rfl
theorem types_same {S T:Blk} {x y:Lin} {cs ds:List Value} {w:World} (h:RLin.rd S w cs x) (h2:RLin.rd T w ds y) :
 Calls Tryz.prog 29 #[.agg cs.toArray,.agg ds.toArray] w fun e w'=>e= .returned (.bool (kCN x y))∧Below w.heap.size w w':=by
 obtain ⟨t,rfl,a,c,rfl,hs⟩:=h;obtain ⟨t2,rfl,a2,c2,rfl,hs2⟩:=h2;obtain ⟨B0,ya,yb,hW0⟩:=box2 w 40 [.int .i64 x.const,.slice a x.terms.length c] 40 [.int .i64 y.const,.slice a2 y.terms.length c2];have xa0:=box0 ya 0 _ rfl;have xa1:=box0 ya 1 _ rfl;have xb0:=box0 yb 0 _ rfl;have xb1:=box0 yb 1 _ rfl;clear ya yb;have HC:=hJ (kFL x.terms y.terms a a2 _ _ c c2 _ (hs.below B0.out) (hs2.below B0.out));have HN:=hJ (eqLin_cases x y);clear hs hs2;by_cases hc:x.const=y.const
 · have hcb:(x.const==y.const)=true:=beq_iff_eq.2 hc
   have HF:Hid (kCN x y=kBI kC1 x.terms y.terms):=hJ (by rw [HN.out,hcb];rfl);clear hc;go_enter func29,ntmps29
   go_wp2_with fail
   refine (HC.out).mono ?_;rintro e w1 ⟨rfl,hb⟩
   go_wp2_with fail
   go_ret;exact ⟨by rw [HF.out];rfl,B0.out.trans (hb.mono B0.out.size)⟩
 · have hcb:(x.const==y.const)=false:=beq_eq_false_iff_ne.2 hc
   have HF:Hid (kCN x y=false):=hJ (by rw [HN.out,hcb];rfl);clear hc;go_enter func29,ntmps29
   go_wp2_with fail
   go_ret;exact ⟨by rw [HF.out];rfl,B0.out⟩
theorem shape_same {S T:Blk} {x y:Lin} {cs ds:List Value} {w:World} (h:RLin.rd S w cs x) (h2:RLin.rd T w ds y) :
 Calls Tryz.prog 238 #[.agg cs.toArray,.agg ds.toArray] w fun e w'=>e= .returned (.bool (kCN x y))∧Below w.heap.size w w':=by
 obtain ⟨t,rfl,a,c,rfl,hs⟩:=h;obtain ⟨t2,rfl,a2,c2,rfl,hs2⟩:=h2;obtain ⟨B0,ya,yb,hW0⟩:=box2 w 40 [.int .i64 x.const,.slice a x.terms.length c] 40 [.int .i64 y.const,.slice a2 y.terms.length c2];have xa0:=box0 ya 0 _ rfl;have xa1:=box0 ya 1 _ rfl;have xb0:=box0 yb 0 _ rfl;have xb1:=box0 yb 1 _ rfl;clear ya yb;have HC:=hJ (kFL x.terms y.terms a a2 _ _ c c2 _ (hs.below B0.out) (hs2.below B0.out));have HN:=hJ (eqLin_cases x y);clear hs hs2;by_cases hc:x.const=y.const
 · have hcb:(x.const==y.const)=true:=beq_iff_eq.2 hc
   have HF:Hid (kCN x y=kBI kC1 x.terms y.terms):=hJ (by rw [HN.out,hcb];rfl);clear hc;go_enter func238,ntmps238
   go_wp2_with fail
   refine (HC.out).mono ?_;rintro e w1 ⟨rfl,hb⟩
   go_wp2_with fail
   go_ret;exact ⟨by rw [HF.out];rfl,B0.out.trans (hb.mono B0.out.size)⟩
 · have hcb:(x.const==y.const)=false:=beq_eq_false_iff_ne.2 hc
   have HF:Hid (kCN x y=false):=hJ (by rw [HN.out,hcb];rfl);clear hc;go_enter func238,ntmps238
   go_wp2_with fail
   go_ret;exact ⟨by rw [HF.out];rfl,B0.out⟩
theorem Sl.small {α :Type} {R:Rep α} {S:Blk} {w:World} {a:Option Addr} {n c:Nat} {l:List α} (h:Sl R S w a n c l):n≤9223372036854775807:=by
 have:=h.cap;have:=h.max;unfold maxLen at this;omega
theorem shape_Equal {S T:Blk} {x y:Shp} {cs ds:List Value} {w:World} (h:RShp.rd S w cs x) (h2:RShp.rd T w ds y) :
 Calls Tryz.prog 170 #[.agg cs.toArray,.agg ds.toArray] w fun e w'=>e= .returned (.bool (kG6 x y))∧Below w.heap.size w w':=by
 obtain ⟨t,rfl,a,c,rfl,hs⟩:=h;obtain ⟨t2,rfl,a2,c2,rfl,hs2⟩:=h2;obtain ⟨B0,ya,yb,hW0⟩:=box2 w 25 [.string x.row,.slice a x.dims.length c] 25 [.string y.row,.slice a2 y.dims.length c2];have xa0:=box0 ya 0 _ rfl;have xa1:=box0 ya 1 _ rfl;have xb0:=box0 yb 0 _ rfl;have xb1:=box0 yb 1 _ rfl;clear ya yb;have HC:=hJ (equal_Lin x.dims y.dims a a2 _ _ c c2 _ (hs.below B0.out) (hs2.below B0.out) _ (kBJ func238 rfl rfl) kCN (fun W x y cs ds _ _ _ h1 h2=>shape_same h1 h2));have HN:Hid (kG6 x y=((x.row.toList==y.row.toList) && kBI kCN x.dims y.dims)):=hJ rfl;clear hs hs2;by_cases hc:(x.row.toList==y.row.toList)=true
 · have HF:Hid (kG6 x y=kBI kCN x.dims y.dims):=hJ (by rw [HN.out,hc];rfl)
   go_enter func170,ntmps170
   go_wp2_with fail
   refine (HC.out).mono ?_;rintro e w1 ⟨rfl,hb⟩
   go_wp2_with fail
   go_ret;exact ⟨by rw [HF.out];rfl,B0.out.trans (hb.mono B0.out.size)⟩
 · have hc:(x.row.toList==y.row.toList)=false:=by simpa using hc
   have HF:Hid (kG6 x y=false):=hJ (by rw [HN.out,hc];rfl);go_enter func170,ntmps170
   go_wp2_with fail
   go_ret;exact ⟨by rw [HF.out];rfl,B0.out⟩
def allT (x:Sch):List Typ:=x.params++[x.result]
theorem allT_any (x:Sch):(allT x).any (fun t=> !kAH t)=(x.params.any (fun t=> !kAH t) || !kAH x.result):=by
 unfold allT;rw [List.any_append];simp
theorem validSch_all (x:Sch):kAI x=(decide (x.params.length≤12) && (decide (x.wh.length≤60) && (!(allT x).any (fun t=> !kAH t) && !x.wh.any (fun x=> !kAB x)))):=by
 rw [allT_any];unfold kAI;cases x.params.any (fun t=> !kAH t) <;> cases kAH x.result <;> simp
theorem szT_all {x:Sch} (h:szS x):∀ t ∈ allT x,szT t:=by
 intro t ht;unfold allT at ht;rcases List.mem_append.1 ht with q | q
 · exact h.1 t q
 · rw [List.mem_singleton.1 q];exact h.2.1
theorem kDJ {S:Blk} {x:Sch} {cs:List Value} {w:World} (h:RSch.rd S w cs x) (hz:szS x) (hn:x.params.length≤1000000) :
 Calls Tryz.prog 30 #[.agg cs.toArray] w fun e w'=>e= .returned (.bool (kAI x))∧Below w.heap.size w w':=by
 have HA:Hid (∀ W,Below w.heap.size w W→Calls Tryz.prog 17 #[.agg cs.toArray] W fun e w'=>(∃ v,e= .returned v∧Own RTyp 27 S w' W.heap.size v (allT x))∧Below W.heap.size W w') :=
  hJ (fun W hW=>kFN (RSch.below h hW) hn)
 obtain ⟨_,t,_,rfl,⟨ap,cp,rfl,hp⟩,ht,⟨aq,cq,rfl,hq⟩⟩:=h;have HN:=hJ (validSch_all x);have hm:=hq.small;have HZ:=hJ hz;have HQ:=hJ hq;clear hp ht hq hz;generalize hP:x.params.length=n at *;generalize hL:x.wh.length=m at *;have HLm:=hJ hL;obtain ⟨B0,ya,hW0⟩:=box1 w 29 [.slice ap n cp,.string x.result.elem,.string x.result.shape.row,t,.slice aq m cq];have xa0:=box0 ya 0 _ rfl;have xa1:=box0 ya 1 _ rfl;have xa2:=box0 ya 2 _ rfl;have xa3:=box0 ya 3 _ rfl;have xa4:=box0 ya 4 _ rfl;clear ya;have HLen:Hid ((allT x).length=n+1):=hJ (by unfold allT;rw [zP,hP];rfl);clear hP hL;go_enter func30,ntmps30
 go_wp2_with fail
 refine (HA.out _ B0.out).mono ?_;rintro e w1 ⟨⟨v,rfl,hown⟩,hb⟩;obtain ⟨al,cl,rfl,hsl⟩:=hown.sl;have HW:=hJ (B0.out.trans (hb.mono B0.out.size));have y0:=kAE xa0 _ hb;have y4:=kAE xa4 _ hb;clear xa0 xa1 xa2 xa3 xa4 hown;generalize hN1:(allT x).length=N at *;have HLN:=hJ hN1;clear hN1;have HS:=hJ hsl;have hnn:=hsl.small;clear hsl
 go_wp2_with fail
 go_loopw [4] (fun i wr=>∃ k:Nat,k≤N∧i= .int .i64 k∧Hid (∀ j,j<k→kAH ((allT x).getD j default)=true)∧Below w1.heap.size w1 wr) (fun i _=>N - (intOf i).toNat)
 case atStart=>exact ⟨0,Nat.zero_le _,rfl,fun j hj=>absurd hj (by omega),zB _ _⟩
 case round =>
  obtain ⟨k,hk,rfl,HT,hB⟩:=hrel;by_cases hlt:k<N
  · obtain ⟨b,off,rfl,hbW,_⟩:=HS.out.form k hlt
    have HK:Hid (k<(allT x).length):=hJ (by rw [HLN.out];exact hlt);have HR:=hJ (HS.out.below hB);obtain ⟨t2,hr,hd,c0,c1,c2⟩:=HR.out.typ k hlt;have HC:=hJ (kH8 hr (szT_all HZ.out _ (kAM HK.out)));have HBad:Hid (kAH ((allT x).getD k default)=false→kAI x=false):=hJ (fun q=>by rw [HN.out,any_bad HK.out q];simp);have HGo:=hJ (fun q=>upto HT.out (p:=fun j=>kAH ((allT x).getD j default)=true) q);clear hd hr;generalize (allT x).getD k default=s at *;by_cases hv:kAH s=true
    · have HGo:=hJ (HGo.out hv)
      rw [hv] at HC;clear hv
      go_wp2_with fail
      refine (HC.out).mono ?_;rintro e w2 ⟨rfl,hb2⟩
      go_wp2_with fail
      go_roundw
      case rel=>exact ⟨k+1,by omega,by go_num,HGo,hB.trans (hb2.mono hB.size)⟩
      case measure=>simp [intOf];omega
    · have hv:kAH s=false:=by simpa using hv
      have HF:=hJ (HBad.out hv);rw [hv] at HC;clear hv
      go_wp2_with fail
      refine (HC.out).mono ?_;rintro e w2 ⟨rfl,hb2⟩
      go_wp2_with fail
      go_ret;exact ⟨by rw [HF.out];rfl,HW.out.trans ((hB.trans (hb2.mono hB.size)).mono HW.out.size)⟩
  · have HN:Hid (kAI x=(decide (n≤12) && (decide (m≤60) && !x.wh.any (fun x=> !kAB x)))):=hJ (by
     rw [HN.out,kHT (fun j hj=>HT.out j (by rw [HLN.out] at hj;omega))];simp)
    have z0:=kAE y0 _ hB;have z4:=kAE y4 _ hB;have HW2:=hJ (HW.out.trans (hB.mono HW.out.size));have HQ2:=hJ (HQ.out.below HW2.out);obtain rfl:k=N:=by omega
    clear y0 y4
    go_wp2_with fail
    go_loopw [5] (fun i wr2=>∃ k:Nat,k≤m∧i= .int .i64 k∧Hid (∀ j,j<k→kAB (x.wh.getD j default)=true)∧Below wr.heap.size wr wr2) (fun i _=>m - (intOf i).toNat)
    case atStart=>exact ⟨0,Nat.zero_le _,rfl,fun j hj=>absurd hj (by omega),zB _ _⟩
    case round =>
     obtain ⟨k,hk,rfl,HT,hB⟩:=hrel;have x0:=kAE z0 _ hB;have x4:=kAE z4 _ hB;clear z0 z4;by_cases hlt:k<m
     · obtain ⟨b,off,rfl,hbW,_⟩:=HQ2.out.form k hlt
       have HK:Hid (k<x.wh.length):=hJ (by rw [HLm.out];exact hlt);have HR:=hJ (HQ2.out.below hB);obtain ⟨t2,hr,hd,c0,c1⟩:=HR.out.lin k hlt;have HC:=hJ (kCH hr (HZ.out.2.2 _ (kAM HK.out)));have HBad:Hid (kAB (x.wh.getD k default)=false→kAI x=false):=hJ (fun q=>by rw [HN.out,any_bad HK.out q];simp);have HGo:=hJ (fun q=>upto HT.out (p:=fun j=>kAB (x.wh.getD j default)=true) q);clear hd hr;generalize x.wh.getD k default=s at *;by_cases hv:kAB s=true
       · have HGo:=hJ (HGo.out hv)
         rw [hv] at HC;clear hv
         go_wp2_with fail
         refine (HC.out).mono ?_;rintro e w2 ⟨rfl,hb2⟩
         go_wp2_with fail
         go_roundw
         case rel=>exact ⟨k+1,by omega,by go_num,HGo,hB.trans (hb2.mono hB.size)⟩
         case measure=>simp [intOf];omega
       · have hv:kAB s=false:=by simpa using hv
         have HF:=hJ (HBad.out hv);rw [hv] at HC;clear hv
         go_wp2_with fail
         refine (HC.out).mono ?_;rintro e w2 ⟨rfl,hb2⟩
         go_wp2_with fail
         go_ret;exact ⟨by rw [HF.out];rfl,HW2.out.trans ((hB.trans (hb2.mono hB.size)).mono HW2.out.size)⟩
     · have HN:Hid (kAI x=(decide (n≤12) && decide (m≤60))):=hJ (by
        rw [HN.out,kHT (fun j hj=>HT.out j (by rw [HLm.out] at hj;omega))];simp)
       by_cases h12:n≤12
       · have q12:decide ((n:Int)≤12)=true:=decide_eq_true (by omega)
         go_wp2_with fail
         go_ret;exact ⟨by rw [HN.out,decide_eq_true h12,Bool.true_and,← decide_eq_decide.2 (show ((m:Int)≤60 ↔ m≤60) by omega)];rfl,HW2.out.trans (hB.mono HW2.out.size)⟩
       · have q12:decide ((n:Int)≤12)=false:=decide_eq_false (by omega)
         go_wp2_with fail
         go_ret;exact ⟨by rw [HN.out,decide_eq_false h12];rfl,HW2.out.trans (hB.mono HW2.out.size)⟩
def fewC (t:Coef):Bool:=decide (t.v.size≤35)
def kFU (x:Lin):Bool:= !x.terms.any (fun t=> !fewC t) && decide (x.terms.length≤14)
def kE3 (s:Shp):Bool:= !s.dims.any (fun x=> !kFU x) && (decide (s.dims.length≤8) && decide (s.row.size≤35))
def kFT (t:Typ):Bool:=decide (t.elem.size≤35) && kE3 t.shape
theorem ref11_fewLinear {S:Blk} {x:Lin} {cs:List Value} {w:World} (h:RLin.rd S w cs x) (hb:∀ t ∈ x.terms,t.v.size≤281474976710656) :
 Calls Tryz.prog 67 #[.agg cs.toArray] w fun e w'=>e= .returned (.bool (kFU x))∧Below w.heap.size w w':=by
 obtain ⟨t,rfl,a,c,rfl,hs⟩:=h;have hm:=hs.small;have HBs:=hJ hb;clear hb;generalize hL:x.terms.length=n at *;obtain ⟨B0,ya,hW0⟩:=box1 w 40 [.int .i64 x.const,.slice a n c];have xa0:=box0 ya 0 _ rfl;have xa1:=box0 ya 1 _ rfl;clear ya;have HL:=hJ hL;have HN:Hid (kFU x=(!x.terms.any (fun t=> !fewC t) && decide (n≤14))):=hJ (by rw [← hL];rfl);have HS:=hJ (hs.below B0.out);clear hs hL;go_enter func67,ntmps67
 go_wp2_with fail
 generalize (w.alloc (.cells #[.int .i64 x.const,.slice a n c] 40))=W at *
 go_loopw [3] (fun i wr=>∃ k:Nat,k≤n∧i= .int .i64 k∧Hid (∀ j,j<k→fewC (x.terms.getD j default)=true)∧W=wr) (fun i _=>n - (intOf i).toNat)
 case atStart=>exact ⟨0,Nat.zero_le _,rfl,fun j hj=>absurd hj (by omega),rfl⟩
 case round =>
  obtain ⟨k,hk,rfl,HT,rfl⟩:=hrel;by_cases hlt:k<n
  · obtain ⟨b,off,rfl,hbW,_⟩:=HS.out.form k hlt
    have HK:Hid (k<x.terms.length):=hJ (by rw [HL.out];exact hlt);obtain ⟨c0,c1⟩:=HS.out.coef k hlt;have hsz:=HBs.out _ (kAM HK.out);have HBad:Hid (fewC (x.terms.getD k default)=false→kFU x=false):=hJ (fun q=>by rw [HN.out,any_bad HK.out q];rfl);have HGo:=hJ (fun q=>upto HT.out (p:=fun j=>fewC (x.terms.getD j default)=true) q);generalize x.terms.getD k default=s at *;by_cases hv:s.v.size≤35
    · have HGo:=hJ (HGo.out (decide_eq_true hv))
      have q:decide (35<(s.v.size:Int))=false:=decide_eq_false (by omega)
      go_wp2_with fail
      go_roundw
      case rel=>exact ⟨k+1,by omega,by go_num,HGo,trivial⟩
      case measure=>simp [intOf];omega
    · have HF:=hJ (HBad.out (decide_eq_false hv))
      have q:decide (35<(s.v.size:Int))=true:=decide_eq_true (by omega)
      go_wp2_with fail
      go_ret;exact ⟨by rw [HF.out];rfl,B0.out⟩
  · have HF:Hid (kFU x=decide (n≤14)):=hJ (by rw [HN.out,kHT (fun j hj=>HT.out j (by rw [HL.out] at hj;omega))];rfl)
    go_wp2_with fail
    go_ret;exact ⟨by rw [HF.out,← decide_eq_decide.2 (show ((n:Int)≤14 ↔ n≤14) by omega)];rfl,B0.out⟩
theorem ref11_Few {S:Blk} {s:Shp} {cs:List Value} {w:World} (h:RShp.rd S w cs s) (hb:∀ x ∈ s.dims,∀ t ∈ x.terms,t.v.size≤281474976710656) (hr:s.row.size≤281474976710656) :
 Calls Tryz.prog 19 #[.agg cs.toArray] w fun e w'=>e= .returned (.bool (kE3 s))∧Below w.heap.size w w':=by
 obtain ⟨t,rfl,a,c,rfl,hs⟩:=h;have hm:=hs.small;have HBs:=hJ hb;clear hb;generalize hL:s.dims.length=n at *;obtain ⟨B0,ya,hW0⟩:=box1 w 25 [.string s.row,.slice a n c];have xa0:=box0 ya 0 _ rfl;have xa1:=box0 ya 1 _ rfl;clear ya;have HL:=hJ hL;have HN:Hid (kE3 s=(!s.dims.any (fun x=> !kFU x) && (decide (n≤8) && decide (s.row.size≤35)))):=hJ (by rw [← hL];rfl);have HS:=hJ (hs.below B0.out);clear hs hL;go_enter func19,ntmps19
 go_wp2_with fail
 generalize (w.alloc (.cells #[.string s.row,.slice a n c] 25))=W at *
 go_loopw [3] (fun i wr=>∃ k:Nat,k≤n∧i= .int .i64 k∧Hid (∀ j,j<k→kFU (s.dims.getD j default)=true)∧Below W.heap.size W wr) (fun i _=>n - (intOf i).toNat)
 case atStart=>exact ⟨0,Nat.zero_le _,rfl,fun j hj=>absurd hj (by omega),zB _ _⟩
 case round =>
  obtain ⟨k,hk,rfl,HT,hB⟩:=hrel;have d0:=kAE xa0 _ hB;have d1:=kAE xa1 _ hB;have HW:=hJ (B0.out.trans (hB.mono B0.out.size));clear xa0 xa1;by_cases hlt:k<n
  · obtain ⟨b,off,rfl,hbW,_⟩:=HS.out.form k hlt
    have HK:Hid (k<s.dims.length):=hJ (by rw [HL.out];exact hlt);have HR:=hJ (HS.out.below hB);obtain ⟨t2,hr2,hd,c0,c1⟩:=HR.out.lin k hlt;have HC:=hJ (ref11_fewLinear hr2 (HBs.out _ (kAM HK.out)));have HBad:Hid (kFU (s.dims.getD k default)=false→kE3 s=false):=hJ (fun q=>by rw [HN.out,any_bad HK.out q];rfl);have HGo:=hJ (fun q=>upto HT.out (p:=fun j=>kFU (s.dims.getD j default)=true) q);clear hd hr2;generalize s.dims.getD k default=y at *;by_cases hv:kFU y=true
    · have HGo:=hJ (HGo.out hv)
      rw [hv] at HC;clear hv
      go_wp2_with fail
      refine (HC.out).mono ?_;rintro e w2 ⟨rfl,hb2⟩
      go_wp2_with fail
      go_roundw
      case rel=>exact ⟨k+1,by omega,by go_num,HGo,hB.trans (hb2.mono hB.size)⟩
      case measure=>simp [intOf];omega
    · have hv:kFU y=false:=by simpa using hv
      have HF:=hJ (HBad.out hv);rw [hv] at HC;clear hv
      go_wp2_with fail
      refine (HC.out).mono ?_;rintro e w2 ⟨rfl,hb2⟩
      go_wp2_with fail
      go_ret;exact ⟨by rw [HF.out];rfl,HW.out.trans (hb2.mono HW.out.size)⟩
  · have HN:Hid (kE3 s=(decide (n≤8) && decide (s.row.size≤35))):=hJ (by rw [HN.out,kHT (fun j hj=>HT.out j (by rw [HL.out] at hj;omega))];rfl)
    by_cases h8:n≤8
    · have q8:decide ((n:Int)≤8)=true:=decide_eq_true (by omega)
      go_wp2_with fail
      go_ret;exact ⟨by rw [HN.out,decide_eq_true h8,Bool.true_and,← decide_eq_decide.2 (show ((s.row.size:Int)≤35 ↔ s.row.size≤35) by omega)];rfl,HW.out⟩
    · have q8:decide ((n:Int)≤8)=false:=decide_eq_false (by omega)
      go_wp2_with fail
      go_ret;exact ⟨by rw [HN.out,decide_eq_false h8];rfl,HW.out⟩
theorem ref12_FewType {S:Blk} {x:Typ} {cs:List Value} {w:World} (h:RTyp.rd S w cs x) (hb:∀ y ∈ x.shape.dims,∀ t ∈ y.terms,t.v.size≤281474976710656) (hr:x.shape.row.size≤281474976710656) (he:x.elem.size≤281474976710656) :
 Calls Tryz.prog 18 #[.agg cs.toArray] w fun e w'=>e= .returned (.bool (kFT x))∧Below w.heap.size w w':=by
 obtain ⟨t,rfl,a,c,rfl,hs⟩:=h;obtain ⟨B0,ya,hW0⟩:=box1 w 27 [.string x.elem,.string x.shape.row,.slice a x.shape.dims.length c];have xa0:=box0 ya 0 _ rfl;have xa1:=box0 ya 1 _ rfl;have xa2:=box0 ya 2 _ rfl;clear ya;have HC:=hJ (ref11_Few (s:=x.shape) (S:=S) (cs:=[.string x.shape.row,.slice a x.shape.dims.length c]) ⟨_,rfl,a,c,rfl,hs.below B0.out⟩ hb hr);have HN:Hid (kFT x=(decide (x.elem.size≤35) && kE3 x.shape)):=hJ rfl;clear hs hb;by_cases h35:x.elem.size≤35
 · have q:decide ((x.elem.size:Int)≤35)=true:=decide_eq_true (by omega)
   have HF:Hid (kFT x=kE3 x.shape):=hJ (by rw [HN.out,decide_eq_true h35];rfl);go_enter func18,ntmps18
   go_wp2_with fail
   refine (HC.out).mono ?_;rintro e w1 ⟨rfl,hb⟩
   go_wp2_with fail
   go_ret;exact ⟨by rw [HF.out];rfl,B0.out.trans (hb.mono B0.out.size)⟩
 · have q:decide ((x.elem.size:Int)≤35)=false:=decide_eq_false (by omega)
   have HF:Hid (kFT x=false):=hJ (by rw [HN.out,decide_eq_false h35];rfl);go_enter func18,ntmps18
   go_wp2_with fail
   go_ret;exact ⟨by rw [HF.out];rfl,B0.out⟩
def strB (s:Str):Prop:=s.size≤281474976710656
def bigL (x:Lin):Prop:=∀ t ∈ x.terms,t.v.size≤281474976710656
def bigT (x:Typ):Prop:=(∀ y ∈ x.shape.dims,bigL y)∧strB x.shape.row∧strB x.elem
def bigS (x:Sch):Prop:=(∀ t ∈ allT x,bigT t)∧(∀ y ∈ x.wh,bigL y)∧x.params.length≤1000000
def kHX (x:Sch):Bool:= !(allT x).any (fun t=> !kFT t) && (kE3 ⟨⟨#[]⟩,x.wh.take (min x.wh.length 8)⟩ && (decide (x.params.length≤13) && (decide (x.wh.length≤8) || x.wh.length==61)))
theorem ref12_Few {S:Blk} {x:Sch} {cs:List Value} {w:World} (h:RSch.rd S w cs x) (hz:bigS x) :
 Calls Tryz.prog 5 #[.agg cs.toArray] w fun e w'=>e= .returned (.bool (kHX x))∧Below w.heap.size w w':=by
 have hn:=hz.2.2
 have HA:Hid (∀ W,Below w.heap.size w W→Calls Tryz.prog 17 #[.agg cs.toArray] W fun e w'=>(∃ v,e= .returned v∧Own RTyp 27 S w' W.heap.size v (allT x))∧Below W.heap.size W w') :=
  hJ (fun W hW=>kFN (RSch.below h hW) hn)
 obtain ⟨_,t,_,rfl,⟨ap,cp,rfl,hp⟩,ht,⟨aq,cq,rfl,hq⟩⟩:=h;have hm:=hq.small;have HZ:=hJ hz;have HQ:=hJ hq;clear hp ht hq hz;have HN:Hid (kHX x=(!(allT x).any (fun t=> !kFT t) && (kE3 ⟨⟨#[]⟩,x.wh.take (min x.wh.length 8)⟩ && (decide (x.params.length≤13) && (decide (x.wh.length≤8) || x.wh.length==61))))):=hJ rfl;generalize hP:x.params.length=n at *;generalize hL:x.wh.length=m at *;have HLm:=hJ hL;have hcm:m≤cq:=HQ.out.cap;obtain ⟨B0,ya,hW0⟩:=box1 w 29 [.slice ap n cp,.string x.result.elem,.string x.result.shape.row,t,.slice aq m cq];have xa0:=box0 ya 0 _ rfl;have xa1:=box0 ya 1 _ rfl;have xa2:=box0 ya 2 _ rfl;have xa3:=box0 ya 3 _ rfl;have xa4:=box0 ya 4 _ rfl;clear ya;clear hP hL;go_enter func5,ntmps5
 go_wp2_with fail
 refine (HA.out _ B0.out).mono ?_;rintro e w1 ⟨⟨v,rfl,hown⟩,hb⟩;obtain ⟨al,cl,rfl,hsl⟩:=hown.sl;have HW:=hJ (B0.out.trans (hb.mono B0.out.size));have y0:=kAE xa0 _ hb;have y4:=kAE xa4 _ hb;clear xa0 xa1 xa2 xa3 xa4 hown;generalize hN1:(allT x).length=N at *;have HLN:=hJ hN1;clear hN1;have HS:=hJ hsl;have hnn:=hsl.small;clear hsl
 go_wp2_with fail
 go_loopw [4] (fun i wr=>∃ k:Nat,k≤N∧i= .int .i64 k∧Hid (∀ j,j<k→kFT ((allT x).getD j default)=true)∧Below w1.heap.size w1 wr) (fun i _=>N - (intOf i).toNat)
 case atStart=>exact ⟨0,Nat.zero_le _,rfl,fun j hj=>absurd hj (by omega),zB _ _⟩
 case round =>
  obtain ⟨k,hk,rfl,HT,hB⟩:=hrel;by_cases hlt:k<N
  · obtain ⟨b,off,rfl,hbW,_⟩:=HS.out.form k hlt
    have HK:Hid (k<(allT x).length):=hJ (by rw [HLN.out];exact hlt);have HR:=hJ (HS.out.below hB);obtain ⟨t2,hr,hd,c0,c1,c2⟩:=HR.out.typ k hlt;have HC:=hJ (ref12_FewType hr (HZ.out.1 _ (kAM HK.out)).1 (HZ.out.1 _ (kAM HK.out)).2.1 (HZ.out.1 _ (kAM HK.out)).2.2);have HBad:Hid (kFT ((allT x).getD k default)=false→kHX x=false):=hJ (fun q=>by rw [HN.out,any_bad HK.out q];rfl);have HGo:=hJ (fun q=>upto HT.out (p:=fun j=>kFT ((allT x).getD j default)=true) q);clear hd hr;generalize (allT x).getD k default=s at *;by_cases hv:kFT s=true
    · have HGo:=hJ (HGo.out hv)
      rw [hv] at HC;clear hv
      go_wp2_with fail
      refine (HC.out).mono ?_;rintro e w2 ⟨rfl,hb2⟩
      go_wp2_with fail
      go_roundw
      case rel=>exact ⟨k+1,by omega,by go_num,HGo,hB.trans (hb2.mono hB.size)⟩
      case measure=>simp [intOf];omega
    · have hv:kFT s=false:=by simpa using hv
      have HF:=hJ (HBad.out hv);rw [hv] at HC;clear hv
      go_wp2_with fail
      refine (HC.out).mono ?_;rintro e w2 ⟨rfl,hb2⟩
      go_wp2_with fail
      go_ret;exact ⟨by rw [HF.out];rfl,HW.out.trans ((hB.trans (hb2.mono hB.size)).mono HW.out.size)⟩
  · have HN:Hid (kHX x=(kE3 ⟨⟨#[]⟩,x.wh.take (min m 8)⟩ && (decide (n≤13) && (decide (m≤8) || m==61)))):=hJ (by
     rw [HN.out,kHT (fun j hj=>HT.out j (by rw [HLN.out] at hj;omega))];rfl)
    have z0:=kAE y0 _ hB;have z4:=kAE y4 _ hB;have HW2:=hJ (HW.out.trans (hB.mono HW.out.size));have HQ2:=hJ (HQ.out.below HW2.out);obtain rfl:k=N:=by omega
    clear y0 y4
    have HC:Hid (∀ q:Nat,q=min m 8→Calls Tryz.prog 19 #[.agg #[.string ⟨#[]⟩,.slice aq q cq]] wr fun e w'=>e= .returned (.bool (kE3 ⟨⟨#[]⟩,x.wh.take (min m 8)⟩))∧Below wr.heap.size wr w'):=hJ (fun q hq=>by
     subst hq;have hsl:=HQ2.out.take (min m 8) (by omega);have hlen:(x.wh.take (min m 8)).length=min m 8:=by rw [zN,HLm.out];omega
     refine ref11_Few (S:=S) (s:=⟨⟨#[]⟩,x.wh.take (min m 8)⟩) (cs:=[.string ⟨#[]⟩,.slice aq (min m 8) cq]) ⟨_,rfl,aq,cq,?_,?_⟩ (fun y hy=>HZ.out.2.1 y (List.mem_of_mem_take hy)) (show ByteArray.size ⟨#[]⟩≤281474976710656 by decide)
     · rw [hlen]
     · rw [hlen];exact hsl)
    generalize kE3 ⟨⟨#[]⟩,x.wh.take (min m 8)⟩=r at *;by_cases h8:m≤8
    · have HC:=hJ (HC.out m (by omega))
      have HN:Hid (kHX x=(r && decide (n≤13))):=hJ (by rw [HN.out,decide_eq_true h8];simp);have q1:min (m:Int) 8=(m:Int):=by omega
      have q8:decide ((m:Int)≤8)=true:=decide_eq_true (by omega)
      go_wp2_with fail
      refine (HC.out).mono ?_;rintro e w2 ⟨rfl,hb2⟩;have g0:=kAE z0 _ hb2;have g4:=kAE z4 _ hb2;have HW3:=hJ (HW2.out.trans (hb2.mono HW2.out.size));clear z0 z4;cases r with
      | false =>
        go_wp2_with fail
        go_ret;exact ⟨by rw [HN.out];rfl,HW3.out⟩
      | true =>
        by_cases h13:n≤13
        · have q13:decide ((n:Int)≤13)=true:=decide_eq_true (by omega)
          go_wp2_with fail
          go_ret;exact ⟨by rw [HN.out,decide_eq_true h13];rfl,HW3.out⟩
        · have q13:decide ((n:Int)≤13)=false:=decide_eq_false (by omega)
          go_wp2_with fail
          go_ret;exact ⟨by rw [HN.out,decide_eq_false h13];rfl,HW3.out⟩
    · have HC:=hJ (HC.out 8 (by omega))
      have HN:Hid (kHX x=(r && (decide (n≤13) && (m==61)))):=hJ (by rw [HN.out,decide_eq_false h8];rfl);have q1:min (m:Int) 8=8:=by omega
      have q2:8≤cq:=by omega
      have q8:decide ((m:Int)≤8)=false:=decide_eq_false (by omega);have HE:Hid (((m:Int)==61)=(m==61)):=hJ (by rw [Bool.eq_iff_iff,beq_iff_eq,beq_iff_eq];omega)
      go_wp2_with fail
      refine (HC.out).mono ?_;rintro e w2 ⟨rfl,hb2⟩;have g0:=kAE z0 _ hb2;have g4:=kAE z4 _ hb2;have HW3:=hJ (HW2.out.trans (hb2.mono HW2.out.size));clear z0 z4;cases r with
      | false =>
        go_wp2_with fail
        go_ret;exact ⟨by rw [HN.out];rfl,HW3.out⟩
      | true =>
        by_cases h13:n≤13
        · have q13:decide ((n:Int)≤13)=true:=decide_eq_true (by omega)
          go_wp2_with fail
          go_ret;exact ⟨by rw [HN.out,decide_eq_true h13,← HE.out];rfl,HW3.out⟩
        · have q13:decide ((n:Int)≤13)=false:=decide_eq_false (by omega)
          go_wp2_with fail
          go_ret;exact ⟨by rw [HN.out,decide_eq_false h13];rfl,HW3.out⟩
def isB (kind:Int) (name:Str) (x:Bnd):Bool:=x.kind==kind && (x.v.toList==name.toList)
def kAW (l:List Bnd) (kind:Int) (name:Str):Int:=idx (isB kind name) l
theorem kEF {S:Blk} (l:List Bnd) (a:Option Addr) (n c:Nat) (w:World) (h:Sl RBnd S w a n c l) (kind:Int) (name:Str) :
 Calls Tryz.prog 11 #[.slice a n c,.int .i64 kind,.string name] w fun e w'=>e= .returned (.int .i64 (kAW l kind name))∧w=w':=by
 have H:=hJ h;have hn:=h.small;clear h;go_enter func11,ntmps11
 go_wp2_with fail
 go_loopw [7] (fun i wr=>∃ k:Nat,k≤n∧i= .int .i64 k∧Hid (∀ j,j<k→isB kind name (l.getD j default)=false)∧w=wr) (fun i _=>n - (intOf i).toNat)
 case atStart=>exact ⟨0,Nat.zero_le _,rfl,fun j hj=>absurd hj (by omega),rfl⟩
 case round =>
  obtain ⟨k,hk,rfl,HT,rfl⟩:=hrel;by_cases hlt:k<n
  · obtain ⟨b,off,rfl,hbW,_⟩:=H.out.form k hlt
    have HK:Hid (k<l.length):=hJ (by rw [H.out.len];exact hlt);obtain ⟨t,d,hr,hd,c0,c1,c2,c3,c4,c5,c6⟩:=H.out.bnd k hlt;have HH:Hid (isB kind name (l.getD k default)=true→kAW l kind name=k):=hJ (fun q=>idx_hit HK.out q HT.out);have HG:=hJ (fun q=>upto HT.out (p:=fun j=>isB kind name (l.getD j default)=false) q);have HE:Hid (isB kind name (l.getD k default)=((l.getD k default).kind==kind && ((l.getD k default).v.toList==name.toList))):=hJ rfl;clear hr hd;generalize l.getD k default=x at *;by_cases h1:x.kind=kind
    · have q1:(x.kind==kind)=true:=beq_iff_eq.2 h1
      clear h1;by_cases h2:(x.v.toList==name.toList)=true
      · have HF:=hJ (HH.out (by rw [HE.out,q1,h2];rfl))
        go_wp2_with fail
        go_ret;exact ⟨by rw [HF.out];rfl,rfl⟩
      · have h2:(x.v.toList==name.toList)=false:=by simpa using h2
        have HGo:=hJ (HG.out (by show isB kind name x=false;rw [HE.out,q1,h2];rfl))
        go_wp2_with fail
        go_roundw
        case rel=>exact ⟨k+1,by omega,by go_num,HGo,trivial⟩
        case measure=>simp [intOf];omega
    · have q1:(x.kind==kind)=false:=beq_eq_false_iff_ne.2 h1
      have HGo:=hJ (HG.out (by show isB kind name x=false;rw [HE.out,q1];rfl));clear h1
      go_wp2_with fail
      go_roundw
      case rel=>exact ⟨k+1,by omega,by go_num,HGo,trivial⟩
      case measure=>simp [intOf];omega
  · have HF:Hid (kAW l kind name= -1):=hJ (kI5 fun j hj=>HT.out j (by rw [H.out.len] at hj;omega))
    go_wp2_with fail
    go_ret;exact ⟨by rw [HF.out];rfl,rfl⟩
theorem shape_find_1 {S:Blk} {x:Bnd} {cs:List Value} {w:World} (h:RBnd.rd S w cs x) (kind:Int) (name:Str) (p q:Nat) (hp:w.cell? ⟨p,0,none⟩=some (.int .i64 kind)) (hq:w.cell? ⟨q,0,none⟩=some (.string name)) :
 Calls Tryz.prog 146 #[.agg cs.toArray,.pointer (some ⟨p,0,none⟩),.pointer (some ⟨q,0,none⟩)] w fun e w'=>e= .returned (.bool (isB kind name x))∧Below w.heap.size w w':=by
 obtain ⟨t,d,rfl,⟨a,c,rfl,_⟩,⟨a2,c2,rfl,_⟩⟩:=h;have hpl:=kB5 hp;have hql:=kB5 hq;obtain ⟨B0,ya,hW0⟩:=box1 w 42 [.int .i64 x.kind,.string x.v,.int .i64 x.dim.const,.slice a x.dim.terms.length c,.string x.row.row,.slice a2 x.row.dims.length c2,.string x.elem];have xa0:=box0 ya 0 _ rfl;have xa1:=box0 ya 1 _ rfl;have xa2:=box0 ya 2 _ rfl;have xa3:=box0 ya 3 _ rfl;have xa4:=box0 ya 4 _ rfl;have xa5:=box0 ya 5 _ rfl;have xa6:=box0 ya 6 _ rfl;clear ya;have hp:=kAE hp _ B0.out;have hq:=kAE hq _ B0.out;have HE:Hid (isB kind name x=(x.kind==kind && (x.v.toList==name.toList))):=hJ rfl;by_cases h1:x.kind=kind
 · have q1:(x.kind==kind)=true:=beq_iff_eq.2 h1
   clear h1;have HF:Hid (isB kind name x=(x.v.toList==name.toList)):=hJ (by rw [HE.out,q1];rfl);go_enter func146,ntmps146
   go_wp2_with fail
   go_ret;exact ⟨by rw [HF.out];rfl,B0.out⟩
 · have q1:(x.kind==kind)=false:=beq_eq_false_iff_ne.2 h1
   clear h1;have HF:Hid (isB kind name x=false):=hJ (by rw [HE.out,q1];rfl);go_enter func146,ntmps146
   go_wp2_with fail
   go_ret;exact ⟨by rw [HF.out];rfl,B0.out⟩
theorem kHE {S:Blk} (l:List Bnd) (a:Option Addr) (n c:Nat) (w:World) (h:Sl RBnd S w a n c l) (kind:Int) (name:Str) :
 Calls Tryz.prog 90 #[.slice a n c,.int .i64 kind,.string name] w fun e w'=>e= .returned (.int .i64 (kAW l kind name))∧Below w.heap.size w w':=by
 obtain ⟨B0,ya,yb,hW0⟩:=box2 w 3 [.int .i64 kind] 9 [.string name];have xa0:=box0 ya 0 _ rfl;have xb0:=box0 yb 0 _ rfl;clear ya yb;have HC:=hJ (index_Bnd l a n c _ (h.below B0.out) 146 #[.pointer (some ⟨w.heap.size,0,none⟩),.pointer (some ⟨w.heap.size+1,0,none⟩)] (kBJ func146 rfl rfl) (isB kind name) (fun W x cs hb _ hr=>shape_find_1 hr kind name _ _ (kAE xa0 _ hb) (kAE xb0 _ hb)));have hmf:∀ (fn:Fn) (first cap:Array Value) (w:World),(Instr.makeFunc fn first cap).run Tryz.prog w= .ok (.func fn first cap) w:=fun _ _ _ _=>rfl
 go_enter func90,ntmps90
 go_wp2_with fail
 refine (HC.out).mono ?_;rintro e w1 ⟨rfl,hb⟩
 go_wp2_with fail
 go_ret;exact ⟨rfl,B0.out.trans (hb.mono B0.out.size)⟩
theorem types_find_1 {S:Blk} {x:Bnd} {cs:List Value} {w:World} (h:RBnd.rd S w cs x) (kind:Int) (name:Str) (p q:Nat) (hp:w.cell? ⟨p,0,none⟩=some (.int .i64 kind)) (hq:w.cell? ⟨q,0,none⟩=some (.string name)) :
 Calls Tryz.prog 149 #[.agg cs.toArray,.pointer (some ⟨p,0,none⟩),.pointer (some ⟨q,0,none⟩)] w fun e w'=>e= .returned (.bool (isB kind name x))∧Below w.heap.size w w':=by
 obtain ⟨t,d,rfl,⟨a,c,rfl,_⟩,⟨a2,c2,rfl,_⟩⟩:=h;have hpl:=kB5 hp;have hql:=kB5 hq;obtain ⟨B0,ya,hW0⟩:=box1 w 42 [.int .i64 x.kind,.string x.v,.int .i64 x.dim.const,.slice a x.dim.terms.length c,.string x.row.row,.slice a2 x.row.dims.length c2,.string x.elem];have xa0:=box0 ya 0 _ rfl;have xa1:=box0 ya 1 _ rfl;have xa2:=box0 ya 2 _ rfl;have xa3:=box0 ya 3 _ rfl;have xa4:=box0 ya 4 _ rfl;have xa5:=box0 ya 5 _ rfl;have xa6:=box0 ya 6 _ rfl;clear ya;have hp:=kAE hp _ B0.out;have hq:=kAE hq _ B0.out;have HE:Hid (isB kind name x=(x.kind==kind && (x.v.toList==name.toList))):=hJ rfl;by_cases h1:x.kind=kind
 · have q1:(x.kind==kind)=true:=beq_iff_eq.2 h1
   clear h1;have HF:Hid (isB kind name x=(x.v.toList==name.toList)):=hJ (by rw [HE.out,q1];rfl);go_enter func149,ntmps149
   go_wp2_with fail
   go_ret;exact ⟨by rw [HF.out];rfl,B0.out⟩
 · have q1:(x.kind==kind)=false:=beq_eq_false_iff_ne.2 h1
   clear h1;have HF:Hid (isB kind name x=false):=hJ (by rw [HE.out,q1];rfl);go_enter func149,ntmps149
   go_wp2_with fail
   go_ret;exact ⟨by rw [HF.out];rfl,B0.out⟩
theorem kFE {S:Blk} (l:List Bnd) (a:Option Addr) (n c:Nat) (w:World) (h:Sl RBnd S w a n c l) (kind:Int) (name:Str) :
 Calls Tryz.prog 92 #[.slice a n c,.int .i64 kind,.string name] w fun e w'=>e= .returned (.int .i64 (kAW l kind name))∧Below w.heap.size w w':=by
 obtain ⟨B0,ya,yb,hW0⟩:=box2 w 3 [.int .i64 kind] 9 [.string name];have xa0:=box0 ya 0 _ rfl;have xb0:=box0 yb 0 _ rfl;clear ya yb;have HC:=hJ (index_Bnd l a n c _ (h.below B0.out) 149 #[.pointer (some ⟨w.heap.size,0,none⟩),.pointer (some ⟨w.heap.size+1,0,none⟩)] (kBJ func149 rfl rfl) (isB kind name) (fun W x cs hb _ hr=>types_find_1 hr kind name _ _ (kAE xa0 _ hb) (kAE xb0 _ hb)));have hmf:∀ (fn:Fn) (first cap:Array Value) (w:World),(Instr.makeFunc fn first cap).run Tryz.prog w= .ok (.func fn first cap) w:=fun _ _ _ _=>rfl
 go_enter func92,ntmps92
 go_wp2_with fail
 refine (HC.out).mono ?_;rintro e w1 ⟨rfl,hb⟩
 go_wp2_with fail
 go_ret;exact ⟨rfl,B0.out.trans (hb.mono B0.out.size)⟩
theorem Sl.single {α :Type} {R:Rep α} {S:Blk} {w:World} {g:Nat} {E:TypeId} {cs:List Value} {x: α} (h:w.heap[g]? =some (.cells cs.toArray E (0,0))) (hr:R.rd S w cs x) (hg:S g):Sl R S w (some ⟨g,0,none⟩) 1 1 [x] :=
 ⟨rfl,zR _,by decide,by intro h;(cases h),fun i y hy=>by
   cases i with
   | zero =>
     simp at hy;subst hy;exact ⟨g,0,cs,rfl,hg,hr,fun j u hu=>by rw [Nat.zero_mul,Nat.zero_add,Nat.zero_add];exact kA3 E h j u hu⟩
   | succ i=>simp at hy⟩
def varL (s:Str):Lin:=⟨0,[⟨s,1⟩]⟩
theorem linear_Const {x:Lin} {S:Blk} {cs:List Value} {w:World} (h:RLin.rd S w cs x) :
 Calls Tryz.prog 25 #[.agg cs.toArray] w fun e w'=>e= .returned (.tuple #[.int .i64 (if x.terms.length=0 then x.const else 0),.bool (decide (x.terms.length=0))])∧Below w.heap.size w w':=by
 obtain ⟨t,rfl,a,c,rfl,hs⟩:=h;have hm:=hs.small;clear hs;generalize x.terms.length=n at *;obtain ⟨B0,ya,hW0⟩:=box1 w 40 [.int .i64 x.const,.slice a n c];have xa0:=box0 ya 0 _ rfl;have xa1:=box0 ya 1 _ rfl;clear ya;by_cases h0:n=0
 · subst h0
   go_enter func25,ntmps25
   go_wp2_with fail
   go_returns
   exact ⟨rfl,B0.out⟩
 · have q:decide (0<(n:Int))=true:=decide_eq_true (by omega)
   go_enter func25,ntmps25
   go_wp2_with fail
   go_returns
   exact ⟨rfl,B0.out⟩
theorem linear_Var (s:Str) (w:World) :
 Calls Tryz.prog 22 #[.string s] w fun e w'=>(∃ cs,e= .returned (.agg cs.toArray)∧RLin.rd (fun k=>w.heap.size≤k) w' cs (varL s))∧Below w.heap.size w w':=by
 go_enter func22,ntmps22
 go_wp2_with fail
 go_returns
 refine ⟨⟨[.int .i64 0,.slice (some ⟨w.heap.size+1,0,none⟩) 1 1],rfl,_,rfl,_,_,rfl,Sl.single (E:=44) (cs:=[.string s,.int .i64 1]) (by (simp only [kAJ,kAF,Array.getElem?_push,Array.size_push];simp)) rfl (Nat.le_succ _)⟩,?_⟩;exact ((zB _ _).alloc (zR _) _).alloc (by simp) _
theorem ref04_Var (s:Str) (w:World) :
 Calls Tryz.prog 143 #[.string s] w fun e w'=>(∃ cs,e= .returned (.agg cs.toArray)∧RLin.rd (fun k=>w.heap.size≤k) w' cs (varL s))∧Below w.heap.size w w':=by
 go_enter func143,ntmps143
 go_wp2_with fail
 go_returns
 refine ⟨⟨[.int .i64 0,.slice (some ⟨w.heap.size+1,0,none⟩) 1 1],rfl,_,rfl,_,_,rfl,Sl.single (E:=44) (cs:=[.string s,.int .i64 1]) (by (simp only [kAJ,kAF,Array.getElem?_push,Array.size_push];simp)) rfl (Nat.le_succ _)⟩,?_⟩;exact ((zB _ _).alloc (zR _) _).alloc (by simp) _
theorem kDT (w:World) (b o o2:Nat) (v:Value) (h:o≠o2):(w.setCell ⟨b,o,none⟩ v).cell? ⟨b,o2,none⟩=w.cell? ⟨b,o2,none⟩:=by
 apply World.cell?_setCell_other;intro e;cases e;exact h rfl
def limL (x:Lin):Lin:=if kAB x then x else ⟨0,[]⟩
def limE (x:Lin):Int:=if kAB x then 0 else 3
theorem RLin.zero (S:Blk) (w:World):RLin.rd S w [.int .i64 0,.slice none 0 0] ⟨0,[]⟩:=⟨_,rfl,none,0,rfl,Sl.empty kA7 S w⟩
theorem ref04_limited {S:Blk} {x:Lin} {cs:List Value} {w:World} (h:RLin.rd S w cs x) (hz:szL x) :
 Calls Tryz.prog 145 #[.agg cs.toArray] w fun e w'=>(∃ ds,e= .returned (.tuple #[.agg ds.toArray,.int .i64 (limE x)])∧RLin.rd S w' ds (limL x))∧Below w.heap.size w w':=by
 have HH:=hJ h;obtain ⟨t,rfl,a,c,rfl,hs⟩:=h
 have HV:Hid (∀ W,Below w.heap.size w W→Calls Tryz.prog 80 #[.agg #[.int .i64 x.const,.slice a x.terms.length c]] W fun e w'=>e= .returned (.bool (kAB x))∧Below W.heap.size W w') :=
  hJ (fun W hW=>kCH (RLin.below HH.out hW) hz)
 clear hs;go_enter func145,ntmps145
 go_wp2_with fail
 have hB0:Below w.heap.size w ((w.alloc (.cells #[.int .i64 x.const,.slice a x.terms.length c] 40)).alloc (.cells #[.int .i64 0,.slice none 0 0] 40)):=((zB _ _).alloc (zR _) _).alloc (by simp) _;have HB0:=hJ hB0;refine (HV.out _ hB0).mono ?_;rintro e w1 ⟨rfl,hb⟩;have hblk:w1.heap[w.heap.size+1]? =some (.cells #[.int .i64 0,.slice none 0 0] 40 (0,0)):=(hb.block _ (by simp)).trans (by (simp only [kAJ,kAF,Array.getElem?_push,Array.size_push];simp));have hblk0:w1.heap[w.heap.size]? =some (.cells #[.int .i64 x.const,.slice a x.terms.length c] 40 (0,0)):=(hb.block _ (by simp <;> omega)).trans (by (simp only [kAJ,kAF,Array.getElem?_push,Array.size_push];simp));have y0:w1.cell? ⟨w.heap.size,0,none⟩=some (.int .i64 x.const):=by simp [World.cell?,hblk0]
 have y1:w1.cell? ⟨w.heap.size,1,none⟩=some (.slice a x.terms.length c):=by simp [World.cell?,hblk0]
 have z0:w1.cell? ⟨w.heap.size+1,0,none⟩=some (.int .i64 0):=by simp [World.cell?,hblk]
 have z1:w1.cell? ⟨w.heap.size+1,1,none⟩=some (.slice none 0 0):=by simp [World.cell?,hblk]
 have fz0:w1.frozen? ⟨w.heap.size+1,0,none⟩=false:=by simp [World.frozen?,hblk]
 have fz1:w1.frozen? ⟨w.heap.size+1,1,none⟩=false:=by simp [World.frozen?,hblk]
 have HW:=hJ (hB0.trans (hb.mono hB0.size));have hsz:w.heap.size+1<w1.heap.size:=by have:=hb.size;simp at this;omega
 clear hB0;by_cases hv:kAB x=true
 · have s0:(w1.setCell ⟨w.heap.size+1,0,none⟩ (.int .i64 x.const)).cell? ⟨w.heap.size+1,0,none⟩=some (.int .i64 x.const):=World.cell?_setCell_same' _ _ _ (by rw [z0];rfl)
   have t1:(w1.setCell ⟨w.heap.size+1,0,none⟩ (.int .i64 x.const)).cell? ⟨w.heap.size+1,1,none⟩=some (.slice none 0 0):=(kDT _ _ _ _ _ (by decide)).trans z1;have s1:((w1.setCell ⟨w.heap.size+1,0,none⟩ (.int .i64 x.const)).setCell ⟨w.heap.size+1,1,none⟩ (.slice a x.terms.length c)).cell? ⟨w.heap.size+1,1,none⟩=some (.slice a x.terms.length c):=World.cell?_setCell_same' _ _ _ (by rw [t1];rfl);have hF:limL x=x∧limE x=0:=by unfold limL limE;rw [hv];exact ⟨rfl,rfl⟩
   have HF:=hJ hF;clear hF
   go_wp2_with fail
   refine bodyPost_ret (v:=.tuple #[.agg #[.int .i64 x.const,.slice a x.terms.length c],.int .i64 0]) (by simp [results,results145,go_sem,s0,s1]) rfl ?_;refine ⟨⟨[.int .i64 x.const,.slice a x.terms.length c],by rw [HF.out.2],by rw [HF.out.1];exact RLin.below HH.out ((HW.out.setCell (by simp) _).setCell (by simp) _)⟩,(HW.out.setCell (by simp) _).setCell (by simp) _⟩
 · have hv:kAB x=false:=by simpa using hv
   have s0:(w1.setCell ⟨w.heap.size+1,0,none⟩ (.int .i64 0)).cell? ⟨w.heap.size+1,0,none⟩=some (.int .i64 0):=World.cell?_setCell_same' _ _ _ (by rw [z0];rfl);have t1:(w1.setCell ⟨w.heap.size+1,0,none⟩ (.int .i64 0)).cell? ⟨w.heap.size+1,1,none⟩=some (.slice none 0 0):=(kDT _ _ _ _ _ (by decide)).trans z1;have s1:((w1.setCell ⟨w.heap.size+1,0,none⟩ (.int .i64 0)).setCell ⟨w.heap.size+1,1,none⟩ (.slice none 0 0)).cell? ⟨w.heap.size+1,1,none⟩=some (.slice none 0 0):=World.cell?_setCell_same' _ _ _ (by rw [t1];rfl);have hF:limL x=⟨0,[]⟩∧limE x=3:=by unfold limL limE;rw [hv];exact ⟨rfl,rfl⟩
   have HF:=hJ hF;clear hF
   go_wp2_with fail
   refine bodyPost_ret (v:=.tuple #[.agg #[.int .i64 0,.slice none 0 0],.int .i64 3]) (by simp [results,results145,go_sem,s0,s1]) rfl ?_;refine ⟨⟨[.int .i64 0,.slice none 0 0],by rw [HF.out.2],by rw [HF.out.1];exact RLin.zero _ _⟩,(HW.out.setCell (by simp) _).setCell (by simp) _⟩
theorem kCS:ElemOf Tryz.prog 36 42 RBnd.size 112:=⟨by kernel_rfl,by kernel_rfl⟩
def zeroL (x:Lin):Bool:=x.const==0 && x.terms.length==0
def bare (kind:Int) (name:Str):Bnd:=⟨kind,name,⟨0,[]⟩,⟨⟨#[]⟩,[]⟩,⟨#[]⟩⟩
def addV (l:List Bnd) (kind:Int) (name:Str):List Bnd:=if 0≤kAW l kind name then l else l++[bare kind name]
theorem ref11_zero {x:Lin} {S:Blk} {cs:List Value} {w:World} (h:RLin.rd S w cs x) :
 Calls Tryz.prog 213 #[.agg cs.toArray] w fun e w'=>e= .returned (.bool (zeroL x))∧Below w.heap.size w w':=by
 obtain ⟨t,rfl,a,c,rfl,hs⟩:=h;have hm:=hs.small;have HN:Hid (zeroL x=(x.const==0 && x.terms.length==0)):=hJ rfl;clear hs;generalize x.terms.length=n at *;obtain ⟨B0,ya,hW0⟩:=box1 w 40 [.int .i64 x.const,.slice a n c];have xa0:=box0 ya 0 _ rfl;have xa1:=box0 ya 1 _ rfl;clear ya;have HE:Hid (((n:Int)==0)=(n==0)):=hJ (by rw [Bool.eq_iff_iff,beq_iff_eq,beq_iff_eq];omega);by_cases h0:x.const=0
 · have q:(x.const==0)=true:=beq_iff_eq.2 h0
   clear h0;go_enter func213,ntmps213
   go_wp2_with fail
   go_ret;exact ⟨by rw [HN.out,q,Bool.true_and,← HE.out];rfl,B0.out⟩
 · have q:(x.const==0)=false:=beq_eq_false_iff_ne.2 h0
   clear h0;go_enter func213,ntmps213
   go_wp2_with fail
   go_ret;exact ⟨by rw [HN.out,q];rfl,B0.out⟩
theorem kEX {S:Blk} {w:World} {base:Nat} {v:Value} {l:List Bnd} (h:Own RBnd 42 S w base v l) (hbase:base≤w.heap.size) (hl:l.length≤1000000) (kind:Int) (name:Str) :
 Calls Tryz.prog 37 #[v,.int .i64 kind,.string name] w fun e w'=>(∃ v',e= .returned v'∧Own RBnd 42 S w' base v' (addV l kind name))∧Below base w w':=by
 obtain ⟨a,c,rfl,hsl⟩:=h.sl;have HO:=hJ h;have HC:=hJ (kEF l a _ c w hsl kind name);have HN:Hid (addV l kind name=if 0≤kAW l kind name then l else l++[bare kind name]):=hJ rfl;clear h hsl;generalize kAW l kind name=d at *;by_cases hd:0≤d
 · have HF:Hid (addV l kind name=l):=hJ (by rw [HN.out,if_pos hd])
   go_enter func37,ntmps37
   go_wp2_with fail
   refine (HC.out).mono ?_;rintro e _ ⟨rfl,rfl⟩
   go_wp2_with fail
   go_ret;exact ⟨⟨_,rfl,by rw [HF.out];exact HO.out⟩,zB _ _⟩
 · have HF:Hid (addV l kind name=l++[bare kind name]):=hJ (by rw [HN.out,if_neg hd])
   have hd2:d<0:=by omega
   go_enter func37,ntmps37
   go_wp2_with fail
   refine HC.out.mono ?_;rintro e _ ⟨rfl,rfl⟩
   go_wp2_with (at_builtin;refine kA1 kCS rfl _ _ rfl base _ _ rfl (HO.out.alloc _) _ (bare kind name) [.int .i64 kind,.string name,.int .i64 0,.slice none 0 0,.string ⟨#[]⟩,.slice none 0 0,.string ⟨#[]⟩] rfl ⟨_,_,rfl,⟨none,0,rfl,Sl.empty _ _ _⟩,⟨none,0,rfl,Sl.empty _ _ _⟩⟩ (kA3 42 (by (simp only [kAJ,kAF,Array.getElem?_push,Array.size_push];simp))) (by omega) (by unfold maxLen;omega) (by simp;omega) ?_;intro v9 w9 hown9 hb9 hk9)
   go_ret;exact ⟨⟨_,rfl,by rw [HF.out];exact hown9⟩,((zB _ _).alloc hbase _).trans hb9⟩
def addAll (l:List Bnd) (ns:List Str):List Bnd:=ns.foldl (fun l v=>addV l 1 v) l
def rowV (s:Shp):List Bnd:=if s.row.toList.isEmpty then [] else addV [] 2 s.row
def varsS (s:Shp):List Bnd:=addAll (rowV s) (s.dims.flatMap kAL)
theorem addV_len (l:List Bnd) (k:Int) (v:Str):(addV l k v).length≤l.length+1:=by
 unfold addV
 split
 · omega
 · rw [zP];exact zR _
theorem kBQ (ns:List Str):∀ l:List Bnd,(addAll l ns).length≤l.length+ns.length:=by
 induction ns with
 | nil=>intro l;exact zR _
 | cons n ns ih =>
   intro l;have h1:=ih (addV l 1 n);have h2:=addV_len l 1 n
   show (addAll (addV l 1 n) ns).length≤_
   rw [List.length_cons];omega
theorem kCI (l:List Bnd) (a b:List Str):addAll l (a++b)=addAll (addAll l a) b:=by unfold addAll;rw [List.foldl_append]
theorem kBW {x:Lin} (h:kAB x=true):x.terms.length≤12:=by
 unfold kAB at h;rw [zA] at h;exact of_decide_eq_true h.2
theorem kB1 {s:Shp} (h:kAK s=true):s.dims.length≤6∧∀ x ∈ s.dims,kAB x=true:=by
 unfold kAK at h;rw [zA,zA] at h;refine ⟨of_decide_eq_true h.2.1,fun x hx=>?_⟩;have:=h.2.2;rw [Bool.not_eq_true'] at this;have:=(List.any_eq_false.1 this) x hx
 simpa using this
theorem kE2 (l:List Lin) (h:∀ x ∈ l,kAB x=true):(l.flatMap kAL).length≤l.length * 12:=by
 induction l with
 | nil=>simp
 | cons x l ih =>
   rw [List.flatMap_cons,zP,List.length_cons,Nat.add_mul];have h1:=ih (fun y hy=>h y (zO _ hy));have h2:=kBW (h x (zM ..));have h3:(kAL x).length=x.terms.length:=by unfold kAL;rw [List.length_map]
   omega
theorem kIV (s:Shp):(rowV s).length≤1:=by
 unfold rowV
 split
 · exact Nat.zero_le _
 · exact addV_len [] 2 s.row
def kC3 (s:Shp):List Bnd:=if kAK s then varsS s else []
theorem ref11_Vars {S:Blk} {s:Shp} {cs:List Value} {w:World} (h:RShp.rd S w cs s) (hz:szH s) :
 Calls Tryz.prog 87 #[.agg cs.toArray] w fun e w'=>(∃ v,e= .returned v∧Own RBnd 42 (fun _=>False) w' w.heap.size v (kC3 s))∧Below w.heap.size w w':=by
 have HV:Hid (∀ W,Below w.heap.size w W→Calls Tryz.prog 137 #[.agg cs.toArray] W fun e w'=>e= .returned (.bool (kAK s))∧Below W.heap.size W w') :=
  hJ (fun W hW=>kF5 (RShp.below h hW) hz)
 obtain ⟨t,rfl,a,c,rfl,hs⟩:=h;have hm:=hs.small;have HS0:=hJ hs;clear hs;have hL:s.dims.length=s.dims.length:=rfl;generalize hL2:s.dims.length=n at *;have HL:=hJ hL2;clear hL hL2;obtain ⟨B0,ya,hW0⟩:=box1 w 25 [.string s.row,.slice a n c];have xa0:=box0 ya 0 _ rfl;have xa1:=box0 ya 1 _ rfl;clear ya;by_cases hv:kAK s=true
 case neg =>
  have hv:kAK s=false:=by simpa using hv
  rw [hv] at HV;have HF:Hid (kC3 s=[]):=hJ (by unfold kC3;rw [hv];rfl);go_enter func87,ntmps87
  go_wp2_with fail
  refine (HV.out _ B0.out).mono ?_;rintro e w1 ⟨rfl,hb⟩
  go_wp2_with fail
  go_ret;exact ⟨⟨_,rfl,by rw [HF.out];exact Own.nil _ _ _ _ _⟩,B0.out.trans (hb.mono B0.out.size)⟩
 have HD:=hJ (kB1 hv);have HF:Hid (kC3 s=varsS s):=hJ (by unfold kC3;rw [hv];rfl);rw [hv] at HV;clear hv;go_enter func87,ntmps87
 go_wp2_with fail
 refine (HV.out _ B0.out).mono ?_;rintro e w1 ⟨rfl,hb⟩;have y0:=kAE xa0 _ hb;have y1:=kAE xa1 _ hb;have HW:=hJ (B0.out.trans (hb.mono B0.out.size));have HS:=hJ (HS0.out.below HW.out);clear xa0 xa1
 -- behind the row
 by_cases he:s.row.toList.isEmpty=true
 · have HR:Hid (rowV s=[]):=hJ (by unfold rowV;rw [he];rfl)
   go_wp2_with fail
   go_loopw [3,4] (fun v i wr=>∃ k:Nat,k≤n∧i= .int .i64 k∧Hid (Own RBnd 42 (fun _=>False) wr w1.heap.size v (addAll (rowV s) ((s.dims.take k).flatMap kAL)))∧Below w1.heap.size w1 wr) (fun _ i _=>n - (intOf i).toNat)
   case atStart=>exact ⟨0,Nat.zero_le _,rfl,hJ (by rw [HR.out];exact Own.nil _ _ _ _ _),zB _ _⟩
   case round =>
    obtain ⟨k,hk,rfl,HO,hB⟩:=hrel;have d1:=kAE y1 _ hB;by_cases hlt:k<n
    · obtain ⟨b,off,rfl,hbW,_⟩:=HS.out.form k hlt
      have HK:Hid (k<s.dims.length):=hJ (by rw [HL.out];exact hlt);have HR:=hJ (HS.out.below hB);have HX:=hJ (kBW (HD.out.2 _ (kAM HK.out)));have HNext:Hid ((s.dims.take (k+1)).flatMap kAL=(s.dims.take k).flatMap kAL++kAL (s.dims.getD k default)):=hJ (by rw [kAU HK.out,List.flatMap_append];simp)
      have HLen:Hid ((addAll (rowV s) ((s.dims.take k).flatMap kAL)).length≤100):=hJ (by
       have q1:=kBQ ((s.dims.take k).flatMap kAL) (rowV s);have q2:=kIV s;have q3:=kE2 (s.dims.take k) (fun x hx=>HD.out.2 x (List.mem_of_mem_take hx));have q4:=HD.out.1;rw [zN] at q3;omega)
      obtain ⟨t,hr,hd,c0,c1⟩:=HS.out.lin k hlt;obtain ⟨ta,tc,rfl,hts⟩:=hd;have HT:=hJ hts;have hmt:=hts.small;clear hr hts c0;generalize s.dims.getD k default=x at *;generalize hl0:addAll (rowV s) ((s.dims.take k).flatMap kAL)=l0 at *;have HL0:=hJ hl0;clear hl0;generalize hXL:x.terms.length=m at *;have HXL:=hJ hXL;clear hXL
      go_wp2_with fail
      go_loopw [3,5] (fun v i wr2=>∃ j:Nat,j≤m∧i= .int .i64 j∧Hid (Own RBnd 42 (fun _=>False) wr2 w1.heap.size v (addAll l0 ((kAL x).take j)))∧Below w1.heap.size w1 wr2) (fun _ i _=>m - (intOf i).toNat)
      case atStart=>exact ⟨0,Nat.zero_le _,rfl,HO,hB⟩
      case round =>
       obtain ⟨j,hj,rfl,HO2,hB2⟩:=hrel;have e1:=kAE y1 _ hB2;have g1:=kAE c1 _ hB2;by_cases hlj:j<m
       · obtain ⟨b2,off2,rfl,hbW2,_⟩:=HT.out.form j hlj
         have HT2:=hJ (HT.out.below hB2);obtain ⟨f0,f1⟩:=HT2.out.coef j hlj;have HKj:Hid (j<x.terms.length):=hJ (by rw [HXL.out];exact hlj)
         have HStep:Hid (addAll l0 ((kAL x).take (j+1))=addV (addAll l0 ((kAL x).take j)) 1 (x.terms.getD j default).v):=hJ (by
          unfold kAL;rw [← List.map_take,← List.map_take,kAU HKj.out,List.map_append,kCI];rfl)
         have HLen2:Hid ((addAll l0 ((kAL x).take j)).length≤1000000):=hJ (by
          have q1:=kBQ ((kAL x).take j) l0;have q2:=HLen.out;rw [zN] at q1;have q3:=HX.out;have q4:=HXL.out;omega)
         have HC:=hJ (kEX HO2.out hB2.size HLen2.out 1 (x.terms.getD j default).v);generalize x.terms.getD j default=y at *
         go_wp2_with fail
         refine HC.out.mono ?_;rintro e w3 ⟨⟨v3,rfl,hown3⟩,hb3⟩
         go_wp2_with fail
         go_roundw
         case rel=>exact ⟨j+1,by omega,by go_num,hJ (by rw [HStep.out];exact hown3),hB2.trans hb3⟩
         case measure=>simp [intOf];omega
       · have HEnd:Hid (addAll l0 ((kAL x).take j)=addAll l0 (kAL x)):=hJ (by
          rw [zT];unfold kAL;rw [List.length_map,HXL.out];omega)
         go_wp2_with fail
         go_roundw
         case rel=>exact ⟨k+1,by omega,by go_num,hJ (by rw [HNext.out,kCI,HL0.out,← HEnd.out];exact HO2.out),hB2⟩
         case measure=>simp [intOf];omega
    · have HAll:Hid (s.dims.take k=s.dims):=hJ (zT (by rw [HL.out];omega))
      go_wp2_with fail
      go_ret;exact ⟨⟨_,rfl,by rw [HF.out];unfold varsS;have:=HO.out.lower HW.out.size;rwa [HAll.out] at this⟩,HW.out.trans (hB.mono HW.out.size)⟩
 · have he:s.row.toList.isEmpty=false:=by simpa using he
   have HR:Hid (rowV s=addV [] 2 s.row):=hJ (by unfold rowV;rw [he];rfl);have HC0:=hJ (kEX (Own.nil RBnd 42 (fun _=>False) w1 w1.heap.size) (zR _) (by decide) 2 s.row)
   go_wp2_with fail
   refine HC0.out.mono ?_;rintro e w2 ⟨⟨v2,rfl,hown0⟩,hb0⟩
   go_wp2_with fail
   go_loopw [3,4] (fun v i wr=>∃ k:Nat,k≤n∧i= .int .i64 k∧Hid (Own RBnd 42 (fun _=>False) wr w1.heap.size v (addAll (rowV s) ((s.dims.take k).flatMap kAL)))∧Below w1.heap.size w1 wr) (fun _ i _=>n - (intOf i).toNat)
   case atStart=>exact ⟨0,Nat.zero_le _,rfl,hJ (by rw [HR.out];exact hown0),hb0⟩
   case round =>
    obtain ⟨k,hk,rfl,HO,hB⟩:=hrel;have d1:=kAE y1 _ hB;by_cases hlt:k<n
    · obtain ⟨b,off,rfl,hbW,_⟩:=HS.out.form k hlt
      have HK:Hid (k<s.dims.length):=hJ (by rw [HL.out];exact hlt);have HR:=hJ (HS.out.below hB);have HX:=hJ (kBW (HD.out.2 _ (kAM HK.out)));have HNext:Hid ((s.dims.take (k+1)).flatMap kAL=(s.dims.take k).flatMap kAL++kAL (s.dims.getD k default)):=hJ (by rw [kAU HK.out,List.flatMap_append];simp)
      have HLen:Hid ((addAll (rowV s) ((s.dims.take k).flatMap kAL)).length≤100):=hJ (by
       have q1:=kBQ ((s.dims.take k).flatMap kAL) (rowV s);have q2:=kIV s;have q3:=kE2 (s.dims.take k) (fun x hx=>HD.out.2 x (List.mem_of_mem_take hx));have q4:=HD.out.1;rw [zN] at q3;omega)
      obtain ⟨t,hr,hd,c0,c1⟩:=HS.out.lin k hlt;obtain ⟨ta,tc,rfl,hts⟩:=hd;have HT:=hJ hts;have hmt:=hts.small;clear hr hts c0;generalize s.dims.getD k default=x at *;generalize hl0:addAll (rowV s) ((s.dims.take k).flatMap kAL)=l0 at *;have HL0:=hJ hl0;clear hl0;generalize hXL:x.terms.length=m at *;have HXL:=hJ hXL;clear hXL
      go_wp2_with fail
      go_loopw [3,5] (fun v i wr2=>∃ j:Nat,j≤m∧i= .int .i64 j∧Hid (Own RBnd 42 (fun _=>False) wr2 w1.heap.size v (addAll l0 ((kAL x).take j)))∧Below w1.heap.size w1 wr2) (fun _ i _=>m - (intOf i).toNat)
      case atStart=>exact ⟨0,Nat.zero_le _,rfl,HO,hB⟩
      case round =>
       obtain ⟨j,hj,rfl,HO2,hB2⟩:=hrel;have e1:=kAE y1 _ hB2;have g1:=kAE c1 _ hB2;by_cases hlj:j<m
       · obtain ⟨b2,off2,rfl,hbW2,_⟩:=HT.out.form j hlj
         have HT2:=hJ (HT.out.below hB2);obtain ⟨f0,f1⟩:=HT2.out.coef j hlj;have HKj:Hid (j<x.terms.length):=hJ (by rw [HXL.out];exact hlj)
         have HStep:Hid (addAll l0 ((kAL x).take (j+1))=addV (addAll l0 ((kAL x).take j)) 1 (x.terms.getD j default).v):=hJ (by
          unfold kAL;rw [← List.map_take,← List.map_take,kAU HKj.out,List.map_append,kCI];rfl)
         have HLen2:Hid ((addAll l0 ((kAL x).take j)).length≤1000000):=hJ (by
          have q1:=kBQ ((kAL x).take j) l0;have q2:=HLen.out;rw [zN] at q1;have q3:=HX.out;have q4:=HXL.out;omega)
         have HC:=hJ (kEX HO2.out hB2.size HLen2.out 1 (x.terms.getD j default).v);generalize x.terms.getD j default=y at *
         go_wp2_with fail
         refine HC.out.mono ?_;rintro e w3 ⟨⟨v3,rfl,hown3⟩,hb3⟩
         go_wp2_with fail
         go_roundw
         case rel=>exact ⟨j+1,by omega,by go_num,hJ (by rw [HStep.out];exact hown3),hB2.trans hb3⟩
         case measure=>simp [intOf];omega
       · have HEnd:Hid (addAll l0 ((kAL x).take j)=addAll l0 (kAL x)):=hJ (by
          rw [zT];unfold kAL;rw [List.length_map,HXL.out];omega)
         go_wp2_with fail
         go_roundw
         case rel=>exact ⟨k+1,by omega,by go_num,hJ (by rw [HNext.out,kCI,HL0.out,← HEnd.out];exact HO2.out),hB2⟩
         case measure=>simp [intOf];omega
    · have HAll:Hid (s.dims.take k=s.dims):=hJ (zT (by rw [HL.out];omega))
      go_wp2_with fail
      go_ret;exact ⟨⟨_,rfl,by rw [HF.out];unfold varsS;have:=HO.out.lower HW.out.size;rwa [HAll.out] at this⟩,HW.out.trans (hB.mono HW.out.size)⟩
def kBN (t:Typ):List Bnd:=if kAH t then (if kAQ t.elem then addV (kC3 t.shape) 3 t.elem else kC3 t.shape) else []
theorem varsV_len (s:Shp):(kC3 s).length≤100:=by
 unfold kC3
 split
 · next h =>
   have q1:=kBQ (s.dims.flatMap kAL) (rowV s);have q2:=kIV s;have q3:=kB1 h;have q4:=kE2 s.dims q3.2;have q5:=q3.1;unfold varsS;omega
 · exact Nat.zero_le _
theorem ref12_TypeVars {S:Blk} {x:Typ} {cs:List Value} {w:World} (h:RTyp.rd S w cs x) (hz:szT x) :
 Calls Tryz.prog 36 #[.agg cs.toArray] w fun e w'=>(∃ v,e= .returned v∧Own RBnd 42 (fun _=>False) w' w.heap.size v (kBN x))∧Below w.heap.size w w':=by
 have HV:Hid (∀ W,Below w.heap.size w W→Calls Tryz.prog 79 #[.agg cs.toArray] W fun e w'=>e= .returned (.bool (kAH x))∧Below W.heap.size W w') :=
  hJ (fun W hW=>kH8 (RTyp.below h hW) hz)
 obtain ⟨t,rfl,a,c,rfl,hs⟩:=h;have hez:x.elem.size≤281474976710656:=zE hz.1 (by decide)
 have HC:Hid (∀ W,Below w.heap.size w W→Calls Tryz.prog 87 #[.agg #[.string x.shape.row,.slice a x.shape.dims.length c]] W fun e w'=>(∃ v,e= .returned v∧Own RBnd 42 (fun _=>False) w' W.heap.size v (kC3 x.shape))∧Below W.heap.size W w') :=
  hJ (fun W hW=>ref11_Vars (S:=S) (cs:=[.string x.shape.row,.slice a x.shape.dims.length c]) ⟨_,rfl,a,c,rfl,hs.below hW⟩ hz.2)
 have HLen:=hJ (varsV_len x.shape);clear hs;obtain ⟨B0,ya,hW0⟩:=box1 w 27 [.string x.elem,.string x.shape.row,.slice a x.shape.dims.length c];have xa0:=box0 ya 0 _ rfl;have xa1:=box0 ya 1 _ rfl;have xa2:=box0 ya 2 _ rfl;clear ya;by_cases hv:kAH x=true
 case neg =>
  have hv:kAH x=false:=by simpa using hv
  rw [hv] at HV;have HF:Hid (kBN x=[]):=hJ (by unfold kBN;rw [hv];rfl);clear hv;go_enter func36,ntmps36
  go_wp2_with fail
  refine (HV.out _ B0.out).mono ?_;rintro e w1 ⟨rfl,hb⟩
  go_wp2_with fail
  go_ret;exact ⟨⟨_,rfl,by rw [HF.out];exact Own.nil _ _ _ _ _⟩,B0.out.trans (hb.mono B0.out.size)⟩
 rw [hv] at HV;have HF:Hid (kBN x=if kAQ x.elem then addV (kC3 x.shape) 3 x.elem else kC3 x.shape):=hJ (by unfold kBN;rw [hv];rfl);clear hv;by_cases he:kAQ x.elem=true
 · have HF:Hid (kBN x=addV (kC3 x.shape) 3 x.elem):=hJ (by rw [HF.out,he];rfl)
   go_enter func36,ntmps36
   go_wp2_with fail
   refine (HV.out _ B0.out).mono ?_;rintro e w1 ⟨rfl,hb⟩;have y0:=kAE xa0 _ hb;have y1:=kAE xa1 _ hb;have y2:=kAE xa2 _ hb;have HW:=hJ (B0.out.trans (hb.mono B0.out.size));clear xa0 xa1 xa2
   go_wp2_with fail
   refine (HC.out _ HW.out).mono ?_;rintro e w2 ⟨⟨v,rfl,hown⟩,hb2⟩;have z0:=kAE y0 _ hb2;have HO:=hJ (kEX hown hb2.size (by have:=HLen.out;omega) 3 x.elem);clear hown
   go_wp2_with fail
   refine (kD9 x.elem hez _).mono ?_;rintro e _ ⟨rfl,rfl⟩
   go_wp2_with fail
   refine HO.out.mono ?_;rintro e w3 ⟨⟨v3,rfl,hown3⟩,hb3⟩
   go_wp2_with fail
   go_ret;exact ⟨⟨_,rfl,by rw [HF.out];exact hown3.lower HW.out.size⟩,HW.out.trans ((hb2.trans hb3).mono HW.out.size)⟩
 · have he:kAQ x.elem=false:=by simpa using he
   have HF:Hid (kBN x=kC3 x.shape):=hJ (by rw [HF.out,he];rfl);go_enter func36,ntmps36
   go_wp2_with fail
   refine (HV.out _ B0.out).mono ?_;rintro e w1 ⟨rfl,hb⟩;have y0:=kAE xa0 _ hb;have y1:=kAE xa1 _ hb;have y2:=kAE xa2 _ hb;have HW:=hJ (B0.out.trans (hb.mono B0.out.size));clear xa0 xa1 xa2
   go_wp2_with fail
   refine (HC.out _ HW.out).mono ?_;rintro e w2 ⟨⟨v,rfl,hown⟩,hb2⟩;have z0:=kAE y0 _ hb2
   go_wp2_with fail
   refine (kD9 x.elem hez _).mono ?_;rintro e _ ⟨rfl,rfl⟩
   go_wp2_with fail
   go_ret;exact ⟨⟨_,rfl,by rw [HF.out];exact hown.lower HW.out.size⟩,HW.out.trans (hb2.mono HW.out.size)⟩
def bndL (l:List Bnd) (name:Str):Lin:=if l.any (isB 1 name) then (l.getD (l.findIdx (isB 1 name)) default).dim else ⟨0,[]⟩
theorem bnd_hit {l:List Bnd} {name:Str} {k:Nat} (hk:k<l.length) (h:isB 1 name (l.getD k default)=true) (hb:∀ j,j<k→isB 1 name (l.getD j default)=false):bndL l name=(l.getD k default).dim∧l.any (isB 1 name)=true:=by
 have hi:=idx_hit hk h hb;unfold idx at hi;by_cases ha:l.any (isB 1 name)=true
 · rw [if_pos ha] at hi
   have hi2:l.findIdx (isB 1 name)=k:=by omega
   unfold bndL;rw [if_pos ha,hi2];exact ⟨rfl,ha⟩
 · rw [if_neg ha] at hi
   omega
theorem bnd_none {l:List Bnd} {name:Str} (hb:∀ j,j<l.length→isB 1 name (l.getD j default)=false):bndL l name=⟨0,[]⟩∧l.any (isB 1 name)=false:=by
 have hi:=kI5 hb;unfold idx at hi;by_cases ha:l.any (isB 1 name)=true
 · rw [if_pos ha] at hi
   omega
 · have ha:l.any (isB 1 name)=false:=by simpa using ha
   unfold bndL;rw [ha];exact ⟨rfl,rfl⟩
theorem ref04_bound {S:Blk} (l:List Bnd) (a:Option Addr) (n c:Nat) (w:World) (h:Sl RBnd S w a n c l) (name:Str) :
 Calls Tryz.prog 142 #[.slice a n c,.string name] w fun e w'=>(∃ ds,e= .returned (.tuple #[.agg ds.toArray,.bool (l.any (isB 1 name))])∧RLin.rd S w' ds (bndL l name))∧Below w.heap.size w w':=by
 have H:=hJ h;have hn:=h.small;clear h;have hB0:Below w.heap.size w (w.alloc (.cells #[.int .i64 0,.slice none 0 0] 40)):=(zB _ _).alloc (zR _) _;have z0:(w.alloc (.cells #[.int .i64 0,.slice none 0 0] 40)).cell? ⟨w.heap.size,0,none⟩=some (.int .i64 0):=by simp [go_sem]
 have z1:(w.alloc (.cells #[.int .i64 0,.slice none 0 0] 40)).cell? ⟨w.heap.size,1,none⟩=some (.slice none 0 0):=by simp [go_sem]
 have hblk:(w.alloc (.cells #[.int .i64 0,.slice none 0 0] 40)).heap[w.heap.size]? =some (.cells #[.int .i64 0,.slice none 0 0] 40 (0,0)):=by (simp only [kAJ,kAF,Array.getElem?_push,Array.size_push];simp)
 have fz0:(w.alloc (.cells #[.int .i64 0,.slice none 0 0] 40)).frozen? ⟨w.heap.size,0,none⟩=false:=by unfold World.frozen?;rw [hblk];rfl
 have fz1:(w.alloc (.cells #[.int .i64 0,.slice none 0 0] 40)).frozen? ⟨w.heap.size,1,none⟩=false:=by unfold World.frozen?;rw [hblk];rfl
 have H1:=hJ (H.out.below hB0);have HB0:=hJ hB0;clear hB0 hblk;go_enter func142,ntmps142
 go_wp2_with fail
 generalize (w.alloc (.cells #[.int .i64 0,.slice none 0 0] 40))=W at *
 go_loopw [6] (fun i wr=>∃ k:Nat,k≤n∧i= .int .i64 k∧Hid (∀ j,j<k→isB 1 name (l.getD j default)=false)∧W=wr) (fun i _=>n - (intOf i).toNat)
 case atStart=>exact ⟨0,Nat.zero_le _,rfl,fun j hj=>absurd hj (by omega),rfl⟩
 case round =>
  obtain ⟨k,hk,rfl,HT,rfl⟩:=hrel;by_cases hlt:k<n
  · obtain ⟨b,off,rfl,hbW,_⟩:=H1.out.form k hlt
    have HK:Hid (k<l.length):=hJ (by rw [H.out.len];exact hlt);obtain ⟨t,d,hr,hd,c0,c1,c2,c3,c4,c5,c6⟩:=H1.out.bnd k hlt;obtain ⟨⟨ta,tc,rfl,hts⟩,_⟩:=hd;have hts:Sl kA7 S W ta (l.getD k default).dim.terms.length tc (l.getD k default).dim.terms:=hts;have HH:Hid (isB 1 name (l.getD k default)=true→bndL l name=(l.getD k default).dim∧l.any (isB 1 name)=true):=hJ (fun q=>bnd_hit HK.out q HT.out);have HG:=hJ (fun q=>upto HT.out (p:=fun j=>isB 1 name (l.getD j default)=false) q);have HE:Hid (isB 1 name (l.getD k default)=((l.getD k default).kind==1 && ((l.getD k default).v.toList==name.toList))):=hJ rfl;obtain ⟨t0,d0,hr0,hd0,g0,g1,g2,g3,g4,g5,g6⟩:=H.out.bnd k hlt
    have HTs0:Hid (Sl kA7 S w ta (l.getD k default).dim.terms.length tc (l.getD k default).dim.terms):=hJ (by
     obtain ⟨⟨ta2,tc2,e2,hts2⟩,_⟩:=hd0;have:=kAE g3 _ HB0.out;rw [c3] at this;cases this;cases e2;exact hts2)
    clear hr hts hr0 hd0 g0 g1 g2 g3 g4 g5 g6;generalize l.getD k default=x at *;by_cases h1:x.kind=1
    · have q1:(x.kind==1)=true:=beq_iff_eq.2 h1
      clear h1;by_cases h2:(x.v.toList==name.toList)=true
      · have HF:=hJ (HH.out (by rw [HE.out,q1,h2];rfl))
        have s0:(W.setCell ⟨w.heap.size,0,none⟩ (.int .i64 x.dim.const)).cell? ⟨w.heap.size,0,none⟩=some (.int .i64 x.dim.const):=World.cell?_setCell_same' _ _ _ (by rw [z0];rfl);have t1:(W.setCell ⟨w.heap.size,0,none⟩ (.int .i64 x.dim.const)).cell? ⟨w.heap.size,1,none⟩=some (.slice none 0 0):=(kDT _ _ _ _ _ (by decide)).trans z1;have s1:((W.setCell ⟨w.heap.size,0,none⟩ (.int .i64 x.dim.const)).setCell ⟨w.heap.size,1,none⟩ (.slice ta x.dim.terms.length tc)).cell? ⟨w.heap.size,1,none⟩=some (.slice ta x.dim.terms.length tc):=World.cell?_setCell_same' _ _ _ (by rw [t1];rfl)
        go_wp2_with fail
        refine bodyPost_ret (v:=.tuple #[.agg #[.int .i64 x.dim.const,.slice ta x.dim.terms.length tc],.bool true]) (by simp [results,results142,go_sem,s0,s1]) rfl ?_;refine ⟨⟨[.int .i64 x.dim.const,.slice ta x.dim.terms.length tc],by rw [HF.out.2],by rw [HF.out.1];exact ⟨_,rfl,ta,tc,rfl,HTs0.out.below ((HB0.out.setCell (zR _) _).setCell (zR _) _)⟩⟩,(HB0.out.setCell (zR _) _).setCell (zR _) _⟩
      · have h2:(x.v.toList==name.toList)=false:=by simpa using h2
        have HGo:=hJ (HG.out (by show isB 1 name x=false;rw [HE.out,q1,h2];rfl))
        go_wp2_with fail
        go_roundw
        case rel=>exact ⟨k+1,by omega,by go_num,HGo,trivial⟩
        case measure=>simp [intOf];omega
    · have q1:(x.kind==1)=false:=beq_eq_false_iff_ne.2 h1
      have HGo:=hJ (HG.out (by show isB 1 name x=false;rw [HE.out,q1];rfl));clear h1
      go_wp2_with fail
      go_roundw
      case rel=>exact ⟨k+1,by omega,by go_num,HGo,trivial⟩
      case measure=>simp [intOf];omega
  · have HF:=hJ (bnd_none (l:=l) (name:=name) fun j hj=>HT.out j (by rw [H.out.len] at hj;omega))
    have s0:(W.setCell ⟨w.heap.size,0,none⟩ (.int .i64 0)).cell? ⟨w.heap.size,0,none⟩=some (.int .i64 0):=World.cell?_setCell_same' _ _ _ (by rw [z0];rfl);have t1:(W.setCell ⟨w.heap.size,0,none⟩ (.int .i64 0)).cell? ⟨w.heap.size,1,none⟩=some (.slice none 0 0):=(kDT _ _ _ _ _ (by decide)).trans z1;have s1:((W.setCell ⟨w.heap.size,0,none⟩ (.int .i64 0)).setCell ⟨w.heap.size,1,none⟩ (.slice none 0 0)).cell? ⟨w.heap.size,1,none⟩=some (.slice none 0 0):=World.cell?_setCell_same' _ _ _ (by rw [t1];rfl)
    go_wp2_with fail
    refine bodyPost_ret (v:=.tuple #[.agg #[.int .i64 0,.slice none 0 0],.bool false]) (by simp [results,results142,go_sem,s0,s1]) rfl ?_;refine ⟨⟨[.int .i64 0,.slice none 0 0],by rw [HF.out.2],by rw [HF.out.1];exact RLin.zero _ _⟩,(HB0.out.setCell (zR _) _).setCell (zR _) _⟩
def ordI (a b:Int):Int:=if a<b then -1 else if b<a then 1 else 0
def kAY (s t:Coef):Int:=if slt s.v t.v then -1 else if slt t.v s.v then 1 else ordI s.c t.c
def kAR:List Coef→List Coef→Int
 | [],[]=>0
 | [],_ :: _=> -1
 | _ :: _,[]=>1
 | a :: x,b :: y=>if kAY a b=0 then kAR x y else kAY a b
def kAX (a b:Lin):Int:=if kAR a.terms b.terms=0 then ordI a.const b.const else kAR a.terms b.terms
theorem kDY (a b:Int):ordI a b=0 ↔ a=b:=by unfold ordI;split;omega;split <;> omega
theorem kE4 (s t:Coef):kAY s t=0 ↔ s=t:=by
 unfold kAY
 constructor
 · intro h
   split at h
   · cases h
   · split at h
     · cases h
     · next h1 h2 =>
       have e:=kFJ (by simpa using h1) (by simpa using h2);have e2:=(kDY _ _).1 h;cases s;cases t;simp_all
 · rintro rfl
   rw [kCG];simp [(kDY s.c s.c).2 rfl]
theorem eqCoef_iff (s t:Coef):kC1 s t=true ↔ s=t:=by
 unfold kC1;rw [zA,kA6,beq_iff_eq]
 constructor
 · rintro ⟨h1,h2⟩;cases s;cases t;simp_all
 · rintro rfl;exact ⟨rfl,rfl⟩
theorem kDC:∀ (l l2:List Coef),kAR l l2=0 ↔ l=l2
 | [],[]=>by simp [kAR]
 | [],_ :: _=>by simp [kAR]
 | _ :: _,[]=>by simp [kAR]
 | a :: x,b :: y=>by
   unfold kAR;by_cases h:kAY a b=0
   · rw [if_pos h,kDC x y]
     have:=(kE4 a b).1 h;subst this;simp
   · rw [if_neg h]
     constructor
     · intro q;exact absurd q h
     · intro q;injection q with q1 q2;exact absurd ((kE4 a b).2 q1) h
theorem kEG {α :Type} [Inhabited α] (p: α → α →Bool) (hp:∀ a b,p a b=true ↔ a=b) (l l2:List α):kBI p l l2=true ↔ l=l2:=by
 unfold kBI;rw [zA,beq_iff_eq,List.all_eq_true]
 constructor
 · rintro ⟨h1,h2⟩
   refine List.ext_getElem h1 fun i hi hi2=>?_
   have:=(hp _ _).1 (h2 i (List.mem_range.2 hi))
   rwa [zD,zD,zG hi,zG hi2] at this
 · rintro rfl
   exact ⟨rfl,fun i _=>(hp _ _).2 rfl⟩
theorem kFV (a b:Lin):kCN a b=true ↔ a=b:=by
 unfold kCN;rw [zA,beq_iff_eq,kEG _ eqCoef_iff]
 constructor
 · rintro ⟨h1,h2⟩;cases a;cases b;simp_all
 · rintro rfl;exact ⟨rfl,rfl⟩
theorem cmpLin_zero (a b:Lin):kAX a b=0 ↔ a=b:=by
 unfold kAX
 constructor
 · intro h
   split at h
   · next q =>
     have e1:=(kDC _ _).1 q;have e2:=(kDY _ _).1 h;cases a;cases b;simp_all
   · next q=>exact absurd h q
 · rintro rfl
   rw [if_pos ((kDC _ _).2 rfl)];exact (kDY _ _).2 rfl
theorem eqLin_cmp (a b:Lin):(kAX a b==0)=kCN a b:=by
 rw [Bool.eq_iff_iff,beq_iff_eq,cmpLin_zero,kFV]
theorem eqShp_iff (a b:Shp):kG6 a b=true ↔ a=b:=by
 unfold kG6;rw [zA,kA6,kEG _ kFV]
 constructor
 · rintro ⟨h1,h2⟩;cases a;cases b;simp_all
 · rintro rfl;exact ⟨rfl,rfl⟩
theorem eqTyp_iff (a b:Typ):kI6 a b=true ↔ a=b:=by
 unfold kI6;rw [zA,kA6,eqShp_iff]
 constructor
 · rintro ⟨h1,h2⟩;cases a;cases b;simp_all
 · rintro rfl;exact ⟨rfl,rfl⟩
theorem eqSch_iff (a b:Sch):eqSch a b=true ↔ a=b:=by
 unfold eqSch;rw [zA,zA,kEG _ eqTyp_iff,eqTyp_iff,kEG _ kFV]
 constructor
 · rintro ⟨h1,h2,h3⟩;cases a;cases b;simp_all
 · rintro rfl;exact ⟨rfl,rfl,rfl⟩
theorem cmp_drop:∀ (k:Nat) (l l2:List Coef),k≤l.length→k≤l2.length→(∀ j,j<k→kAY (l.getD j default) (l2.getD j default)=0)→kAR l l2=kAR (l.drop k) (l2.drop k)
 | 0,_,_,_,_,_=>rfl
 | k+1,[],_,h,_,_=>by simp at h
 | k+1,_ :: _,[],_,h,_=>by simp at h
 | k+1,a :: l,b :: l2,h1,h2,h=>by
   have h0:=h 0 (by omega);simp only [List.getD_cons_zero] at h0
   show (if kAY a b=0 then kAR l l2 else kAY a b)=kAR (l.drop k) (l2.drop k)
   rw [if_pos h0];exact cmp_drop k l l2 (by simpa using h1) (by simpa using h2) (fun j hj=>by have:=h (j+1) (by omega);simpa using this)
theorem cmp_stop {l l2:List Coef} {k:Nat} (h1:k<l.length) (h2:k<l2.length) (h:∀ j,j<k→kAY (l.getD j default) (l2.getD j default)=0) (hk:kAY (l.getD k default) (l2.getD k default)≠0):kAR l l2=kAY (l.getD k default) (l2.getD k default):=by
 rw [cmp_drop k l l2 (by omega) (by omega) h,List.drop_eq_getElem_cons h1,List.drop_eq_getElem_cons h2];have e:∀ {q:List Coef} (hq:k<q.length),q.getD k default=q[k]:=fun hq=>by rw [zD,zG hq];rfl
 rw [e h1,e h2] at hk ⊢;unfold kAR;rw [if_neg hk]
theorem cmp_end {l l2:List Coef} {k:Nat} (h1:k=l.length∨k=l2.length) (hl:k≤l.length) (hl2:k≤l2.length) (h:∀ j,j<k→kAY (l.getD j default) (l2.getD j default)=0):kAR l l2=ordI l.length l2.length:=by
 rw [cmp_drop k l l2 hl hl2 h];have a1:(l.drop k).length=l.length - k:=List.length_drop;have a2:(l2.drop k).length=l2.length - k:=List.length_drop;unfold ordI;cases e1:l.drop k with
 | nil =>
   rw [e1] at a1;simp at a1;cases e2:l2.drop k with
   | nil=>rw [e2] at a2;simp at a2;simp only [kAR];rw [if_neg (by omega),if_neg (by omega)]
   | cons b y=>rw [e2] at a2;simp at a2;simp only [kAR];rw [if_pos (by omega)]
 | cons a x =>
   rw [e1] at a1;simp at a1;cases e2:l2.drop k with
   | nil=>rw [e2] at a2;simp at a2;simp only [kAR];rw [if_neg (by omega),if_pos (by omega)]
   | cons b y=>rw [e2] at a2;simp at a2;omega
end Go.Proofs.YtcjfagnlmlkedaaGreatDoor
