/- Go's maps as lists of pairs. -/
import Derived.Test.YtmlpmdccfmmpoaaGreatEd
set_option linter.unusedSimpArgs false
set_option linter.unusedVariables false
namespace Go.Proofs.YtmlpmdccfmmpoaaGreat
open E
abbrev tI (n:Int):T:=.int .i64 n
abbrev vI (n:Int):V:=.t (.int .i64 n)
abbrev vB (b:Bool):V:=.t (.bool b)
abbrev vS (s:List UInt8):V:=.t (.str s)

@[ext] structure Account where
 code:Int
 kind:Int
 basis:Int
 parent:Int
 deriving DecidableEq,Inhabited
def Account.c (x:Account):List T:=[.int .i64 x.code,.int .i64 x.kind,.int .i64 x.basis,.int .i64 x.parent]
abbrev Account.v (x:Account):V:=.agg (x.c.map .t)
abbrev Account.l (l:List Account):V:=.t (.sl (l.map Account.c))

@[ext] structure Link where
 frm:Int
 to:Int
 since:Int
 deriving DecidableEq,Inhabited
def Link.c (x:Link):List T:=[.int .i64 x.frm,.int .i64 x.to,.int .i64 x.since]
abbrev Link.v (x:Link):V:=.agg (x.c.map .t)
abbrev Link.l (l:List Link):V:=.t (.sl (l.map Link.c))

@[ext] structure Ent where
 name:List UInt8
 cur:List UInt8
 chart:List Account
 links:List Link
 joint:Bool
 deriving DecidableEq,Inhabited
def Ent.c (x:Ent):List T:=[.str x.name,.str x.cur,.sl (x.chart.map Account.c),.sl (x.links.map Link.c),.bool x.joint]
abbrev Ent.v (x:Ent):V:=.agg (x.c.map .t)
abbrev Ent.l (l:List Ent):V:=.t (.sl (l.map Ent.c))

@[ext] structure Cal where
 year:Int
 month:Int
 periods:Int
 deriving DecidableEq,Inhabited
def Cal.c (x:Cal):List T:=[.int .i64 x.year,.int .i64 x.month,.int .i64 x.periods]
abbrev Cal.v (x:Cal):V:=.agg (x.c.map .t)
abbrev Cal.l (l:List Cal):V:=.t (.sl (l.map Cal.c))

@[ext] structure Roles where
 inv:Int
 gdw:Int
 asc:Int
 ivt:Int
 rsv:Int
 mnt:Int
 rtn:Int
 acq:Int
 own:Int
 dsp:Int
 asp:Int
 dvd:Int
 mnp:Int
 dif:Int
 mrg:Int
 deriving DecidableEq,Inhabited
def Roles.c (x:Roles):List T:=[.int .i64 x.inv,.int .i64 x.gdw,.int .i64 x.asc,.int .i64 x.ivt,.int .i64 x.rsv,.int .i64 x.mnt,.int .i64 x.rtn,.int .i64 x.acq,.int .i64 x.own,.int .i64 x.dsp,.int .i64 x.asp,.int .i64 x.dvd,.int .i64 x.mnp,.int .i64 x.dif,.int .i64 x.mrg]
abbrev Roles.v (x:Roles):V:=.agg (x.c.map .t)
abbrev Roles.l (l:List Roles):V:=.t (.sl (l.map Roles.c))

@[ext] structure Group where
 cur:List UInt8
 cal:Cal
 chart:List Account
 roles:Roles
 ents:List Ent
 deriving DecidableEq,Inhabited
def Group.c (x:Group):List T:=[.str x.cur]++x.cal.c++[.sl (x.chart.map Account.c)]++x.roles.c++[.sl (x.ents.map Ent.c)]
abbrev Group.v (x:Group):V:=.agg (x.c.map .t)
abbrev Group.l (l:List Group):V:=.t (.sl (l.map Group.c))

@[ext] structure Item where
 re:Int
 rl:Int
 ent:Int
 acc:Int
 par:Int
 date:Int
 amt:Int
 deriving DecidableEq,Inhabited
def Item.c (x:Item):List T:=[.int .i64 x.re,.int .i64 x.rl,.int .i64 x.ent,.int .i64 x.acc,.int .i64 x.par,.int .i64 x.date,.int .i64 x.amt]
abbrev Item.v (x:Item):V:=.agg (x.c.map .t)
abbrev Item.l (l:List Item):V:=.t (.sl (l.map Item.c))

@[ext] structure Part where
 acc:Int
 amt:Int
 deriving DecidableEq,Inhabited
def Part.c (x:Part):List T:=[.int .i64 x.acc,.int .i64 x.amt]
abbrev Part.v (x:Part):V:=.agg (x.c.map .t)
abbrev Part.l (l:List Part):V:=.t (.sl (l.map Part.c))

@[ext] structure Posting where
 kind:Int
 ent:Int
 oth:Int
 rule:Int
 parts:List Part
 deriving DecidableEq,Inhabited
def Posting.c (x:Posting):List T:=[.int .i64 x.kind,.int .i64 x.ent,.int .i64 x.oth,.int .i64 x.rule,.sl (x.parts.map Part.c)]
abbrev Posting.v (x:Posting):V:=.agg (x.c.map .t)
abbrev Posting.l (l:List Posting):V:=.t (.sl (l.map Posting.c))

@[ext] structure Bal where
 acc:Int
 amt:Int
 deriving DecidableEq,Inhabited
def Bal.c (x:Bal):List T:=[.int .i64 x.acc,.int .i64 x.amt]
abbrev Bal.v (x:Bal):V:=.agg (x.c.map .t)
abbrev Bal.l (l:List Bal):V:=.t (.sl (l.map Bal.c))

@[ext] structure Res where
 per:Int
 items:List Item
 posts:List Posting
 tots:List Bal
 deriving DecidableEq,Inhabited
def Res.c (x:Res):List T:=[.int .i64 x.per,.sl (x.items.map Item.c),.sl (x.posts.map Posting.c),.sl (x.tots.map Bal.c)]
abbrev Res.v (x:Res):V:=.agg (x.c.map .t)
abbrev Res.l (l:List Res):V:=.t (.sl (l.map Res.c))

@[ext] structure Tok where
 kind:Int
 text:List UInt8
 frm:Int
 deriving DecidableEq,Inhabited
def Tok.c (x:Tok):List T:=[.int .i64 x.kind,.str x.text,.int .i64 x.frm]
abbrev Tok.v (x:Tok):V:=.agg (x.c.map .t)
abbrev Tok.l (l:List Tok):V:=.t (.sl (l.map Tok.c))

@[ext] structure Ins where
 op:Int
 a:Int
 b:Int
 deriving DecidableEq,Inhabited
def Ins.c (x:Ins):List T:=[.int .i64 x.op,.int .i64 x.a,.int .i64 x.b]
abbrev Ins.v (x:Ins):V:=.agg (x.c.map .t)
abbrev Ins.l (l:List Ins):V:=.t (.sl (l.map Ins.c))

@[ext] structure Code where
 name:List UInt8
 pair:Bool
 ins:List Ins
 deriving DecidableEq,Inhabited
def Code.c (x:Code):List T:=[.str x.name,.bool x.pair,.sl (x.ins.map Ins.c)]
abbrev Code.v (x:Code):V:=.agg (x.c.map .t)
abbrev Code.l (l:List Code):V:=.t (.sl (l.map Code.c))

@[ext] structure Role where
 name:List UInt8
 code:Int
 kind:Int
 basis:Int
 mapped:Bool
 deriving DecidableEq,Inhabited
def Role.c (x:Role):List T:=[.str x.name,.int .i64 x.code,.int .i64 x.kind,.int .i64 x.basis,.bool x.mapped]
abbrev Role.v (x:Role):V:=.agg (x.c.map .t)
abbrev Role.l (l:List Role):V:=.t (.sl (l.map Role.c))

attribute [simp] Account.c Account.v Account.l Link.c Link.v Link.l Ent.c Ent.v Ent.l Cal.c Cal.v Cal.l Roles.c Roles.v Roles.l Group.c Group.v Group.l Item.c Item.v Item.l Part.c Part.v Part.l Posting.c Posting.v Posting.l Bal.c Bal.v Bal.l Res.c Res.v Res.l Tok.c Tok.v Tok.l Ins.c Ins.v Ins.l Code.c Code.v Code.l Role.c Role.v Role.l vI vB vS tI

theorem Aq {α:Type} {l:List α} {k:Nat} {x:α} (h:l[k]?=some x):l.take (k+1)=l.take k++[x]:=by
 rw [List.take_add_one,h];rfl
theorem Aa {α:Type} {l:List α} {k:Nat} (h:k<l.length) : ∃x,l[k]?=some x:=⟨l[k],by simp [h]⟩
theorem A5 {α:Type} {l:List α} {k:Nat} {x:α} (h:l[k]?=some x):k<l.length:=(List.getElem?_eq_some_iff.1 h).1
abbrev W (n:Int):Int:=IntKind.i64.wrap n
theorem Cw.refl : ∀(K:List Nat),Cw K K
 | []=>trivial
 | x::K=>⟨rfl,Cw.refl K⟩
end Go.Proofs.YtmlpmdccfmmpoaaGreat
section
set_option linter.unusedSimpArgs false
set_option linter.unusedVariables false
namespace Go.Proofs.YtmlpmdccfmmpoaaGreat
open E

section
variable {α β:Type} [DecidableEq α]
def Bw:List (α×β)→α→Option β
 | [],_=>none
 | (a,b)::l,k=>if k=a then some b else Bw l k
def Cv:List (α×β)→α→β→List (α×β)
 | [],k,b=>[(k,b)]
 | (a,c)::l,k,b=>if k=a then (k,b)::l else (a,c)::Cv l k b

theorem Qg (l:List (α×β)) (k:α) (b:β) (q:α):Bw (Cv l k b) q=if q=k then some b else Bw l q:=by
 induction l with
 | nil=>simp [Cv,Bw]
 | cons p l ih=>
  obtain⟨a,c⟩:=p
  simp only [Cv]
  by_cases h:k=a
  ·subst h;rw [if_pos rfl];simp only [Bw];split<;>rfl
  ·rw [if_neg h];simp only [Bw,ih]
   by_cases h2:q=a
   ·subst h2;rw [if_pos rfl,if_neg (Ne.symm h),if_pos rfl]
   ·rw [if_neg h2,if_neg h2]
theorem H9 (l:List (α×β)) (k:α) (b:β):(Cv l k b).length≤l.length+1:=by
 induction l with
 | nil=>simp [Cv]
 | cons p l ih=>obtain⟨a,c⟩:=p;simp only [Cv];split<;>simp<;>omega

theorem Qh {ka:Bool} {ks:List Nat} (enc:α→V) (c:α→List T) (v:β→V) (h1 : ∀a,Bm (cellsV (enc a))=some (c a)) (h2 : ∀a,isAggV (enc a)=ka) (h3 : ∀a b,eqC ks (c a) (c b)=some (decide (a=b))) (k:α) (l:List (α×β)) :
  Do ka ks (c k) (l.map fun p=>(enc p.1,v p.2))=some ((Bw l k).map v):=by
 induction l with
 | nil=>simp [Do,Bw]
 | cons p l ih=>
  obtain⟨a,b⟩:=p
  simp only [List.map_cons,Do,eqK,h1,h2,h3,if_true,Bw]
  by_cases h:k=a
  ·simp [h]
  ·simp only [h,decide_false,if_false];exact ih
theorem Rq {ka:Bool} {ks:List Nat} (enc:α→V) (c:α→List T) (v:β→V) (h1 : ∀a,Bm (cellsV (enc a))=some (c a)) (h2 : ∀a,isAggV (enc a)=ka) (h3 : ∀a b,eqC ks (c a) (c b)=some (decide (a=b))) (k:α) (b:β) (l:List (α×β)) :
  F7 ka ks (c k) (enc k) (v b) (l.map fun p=>(enc p.1,v p.2))=some ((Cv l k b).map fun p=>(enc p.1,v p.2)):=by
 induction l with
 | nil=>simp [F7,Cv]
 | cons p l ih=>
  obtain⟨a,q⟩:=p
  simp only [List.map_cons,F7,eqK,h1,h2,h3,if_true,Cv]
  by_cases h:k=a
  ·simp [h]
  ·simp only [h,decide_false,if_false,ih];simp
end

section
variable {α:Type} [DecidableEq α]
def Rr (l:List α):List (α×Bool):=l.map fun c=>(c,true)
end

abbrev mI {β:Type} (v:β→V) (l:List (Int×β)):List (V×V):=l.map fun p=>(V.t (.int .i64 p.1),v p.2)
theorem Ov {β:Type} (v:β→V) (k:Int) (l:List (Int×β)):Do false [1] [T.int .i64 k] (mI v l)=some ((Bw l k).map v):=
 Qh (fun k=>V.t (.int .i64 k)) (fun k=>[T.int .i64 k]) v (fun _=>rfl) (fun _=>rfl) (fun a b=>by by_cases h:a=b<;>simp [eqC,h]) k l
theorem Wh {β:Type} (v:β→V) (k:Int) (b:β) (l:List (Int×β)):F7 false [1] [T.int .i64 k] (V.t (.int .i64 k)) (v b) (mI v l)=some (mI v (Cv l k b)):=
 Rq (fun k=>V.t (.int .i64 k)) (fun k=>[T.int .i64 k]) v (fun _=>rfl) (fun _=>rfl) (fun a b=>by by_cases h:a=b<;>simp [eqC,h]) k b l
@[simp] theorem U6 {α:Type} (l:List α):(Rr l).length=l.length:=by simp [Rr]
@[simp] theorem Xt {α:Type} : Rr ([]:List α)=[]:=rfl
end Go.Proofs.YtmlpmdccfmmpoaaGreat
end
