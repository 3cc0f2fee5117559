/- Go's data types as trees: what a value of each holds, cell by cell. Printed by gen_api.py. -/
import Derived.Test.YtmlpmdccfmmpoaaGreatEd
set_option linter.unusedSimpArgs false
set_option linter.unusedVariables false
namespace Go.Proofs.YtmlpmdccfmmpoaaGreat
open E

abbrev tI (n : Int) : T := .int .i64 n
abbrev vI (n : Int) : V := .t (.int .i64 n)
abbrev vB (b : Bool) : V := .t (.bool b)
abbrev vS (s : List UInt8) : V := .t (.str s)

@[ext] structure Account where
 code : Int
 kind : Int
 basis : Int
 parent : Int
 deriving DecidableEq, Inhabited
def Account.c (x : Account) : List T := [.int .i64 x.code, .int .i64 x.kind, .int .i64 x.basis, .int .i64 x.parent]
abbrev Account.v (x : Account) : V := .agg (x.c.map .t)
abbrev Account.l (l : List Account) : V := .t (.sl (l.map Account.c))

@[ext] structure Link where
 frm : Int
 to : Int
 since : Int
 deriving DecidableEq, Inhabited
def Link.c (x : Link) : List T := [.int .i64 x.frm, .int .i64 x.to, .int .i64 x.since]
abbrev Link.v (x : Link) : V := .agg (x.c.map .t)
abbrev Link.l (l : List Link) : V := .t (.sl (l.map Link.c))

@[ext] structure Ent where
 name : List UInt8
 cur : List UInt8
 chart : List Account
 links : List Link
 joint : Bool
 deriving DecidableEq, Inhabited
def Ent.c (x : Ent) : List T := [.str x.name, .str x.cur, .sl (x.chart.map Account.c), .sl (x.links.map Link.c), .bool x.joint]
abbrev Ent.v (x : Ent) : V := .agg (x.c.map .t)
abbrev Ent.l (l : List Ent) : V := .t (.sl (l.map Ent.c))

@[ext] structure Cal where
 year : Int
 month : Int
 periods : Int
 deriving DecidableEq, Inhabited
def Cal.c (x : Cal) : List T := [.int .i64 x.year, .int .i64 x.month, .int .i64 x.periods]
abbrev Cal.v (x : Cal) : V := .agg (x.c.map .t)
abbrev Cal.l (l : List Cal) : V := .t (.sl (l.map Cal.c))

@[ext] structure Roles where
 inv : Int
 gdw : Int
 asc : Int
 ivt : Int
 rsv : Int
 mnt : Int
 rtn : Int
 acq : Int
 own : Int
 dsp : Int
 asp : Int
 dvd : Int
 mnp : Int
 dif : Int
 mrg : Int
 deriving DecidableEq, Inhabited
def Roles.c (x : Roles) : List T := [.int .i64 x.inv, .int .i64 x.gdw, .int .i64 x.asc, .int .i64 x.ivt, .int .i64 x.rsv, .int .i64 x.mnt, .int .i64 x.rtn, .int .i64 x.acq, .int .i64 x.own, .int .i64 x.dsp, .int .i64 x.asp, .int .i64 x.dvd, .int .i64 x.mnp, .int .i64 x.dif, .int .i64 x.mrg]
abbrev Roles.v (x : Roles) : V := .agg (x.c.map .t)
abbrev Roles.l (l : List Roles) : V := .t (.sl (l.map Roles.c))

@[ext] structure Group where
 cur : List UInt8
 cal : Cal
 chart : List Account
 roles : Roles
 ents : List Ent
 deriving DecidableEq, Inhabited
def Group.c (x : Group) : List T := [.str x.cur] ++ x.cal.c ++ [.sl (x.chart.map Account.c)] ++ x.roles.c ++ [.sl (x.ents.map Ent.c)]
abbrev Group.v (x : Group) : V := .agg (x.c.map .t)
abbrev Group.l (l : List Group) : V := .t (.sl (l.map Group.c))

@[ext] structure Item where
 re : Int
 rl : Int
 ent : Int
 acc : Int
 par : Int
 date : Int
 amt : Int
 deriving DecidableEq, Inhabited
def Item.c (x : Item) : List T := [.int .i64 x.re, .int .i64 x.rl, .int .i64 x.ent, .int .i64 x.acc, .int .i64 x.par, .int .i64 x.date, .int .i64 x.amt]
abbrev Item.v (x : Item) : V := .agg (x.c.map .t)
abbrev Item.l (l : List Item) : V := .t (.sl (l.map Item.c))

@[ext] structure Part where
 acc : Int
 amt : Int
 deriving DecidableEq, Inhabited
def Part.c (x : Part) : List T := [.int .i64 x.acc, .int .i64 x.amt]
abbrev Part.v (x : Part) : V := .agg (x.c.map .t)
abbrev Part.l (l : List Part) : V := .t (.sl (l.map Part.c))

@[ext] structure Posting where
 kind : Int
 ent : Int
 oth : Int
 rule : Int
 parts : List Part
 deriving DecidableEq, Inhabited
def Posting.c (x : Posting) : List T := [.int .i64 x.kind, .int .i64 x.ent, .int .i64 x.oth, .int .i64 x.rule, .sl (x.parts.map Part.c)]
abbrev Posting.v (x : Posting) : V := .agg (x.c.map .t)
abbrev Posting.l (l : List Posting) : V := .t (.sl (l.map Posting.c))

@[ext] structure Bal where
 acc : Int
 amt : Int
 deriving DecidableEq, Inhabited
def Bal.c (x : Bal) : List T := [.int .i64 x.acc, .int .i64 x.amt]
abbrev Bal.v (x : Bal) : V := .agg (x.c.map .t)
abbrev Bal.l (l : List Bal) : V := .t (.sl (l.map Bal.c))

@[ext] structure Res where
 per : Int
 items : List Item
 posts : List Posting
 tots : List Bal
 deriving DecidableEq, Inhabited
def Res.c (x : Res) : List T := [.int .i64 x.per, .sl (x.items.map Item.c), .sl (x.posts.map Posting.c), .sl (x.tots.map Bal.c)]
abbrev Res.v (x : Res) : V := .agg (x.c.map .t)
abbrev Res.l (l : List Res) : V := .t (.sl (l.map Res.c))

@[ext] structure Tok where
 kind : Int
 text : List UInt8
 frm : Int
 deriving DecidableEq, Inhabited
def Tok.c (x : Tok) : List T := [.int .i64 x.kind, .str x.text, .int .i64 x.frm]
abbrev Tok.v (x : Tok) : V := .agg (x.c.map .t)
abbrev Tok.l (l : List Tok) : V := .t (.sl (l.map Tok.c))

@[ext] structure Ins where
 op : Int
 a : Int
 b : Int
 deriving DecidableEq, Inhabited
def Ins.c (x : Ins) : List T := [.int .i64 x.op, .int .i64 x.a, .int .i64 x.b]
abbrev Ins.v (x : Ins) : V := .agg (x.c.map .t)
abbrev Ins.l (l : List Ins) : V := .t (.sl (l.map Ins.c))

@[ext] structure Code where
 name : List UInt8
 pair : Bool
 ins : List Ins
 deriving DecidableEq, Inhabited
def Code.c (x : Code) : List T := [.str x.name, .bool x.pair, .sl (x.ins.map Ins.c)]
abbrev Code.v (x : Code) : V := .agg (x.c.map .t)
abbrev Code.l (l : List Code) : V := .t (.sl (l.map Code.c))

@[ext] structure Role where
 name : List UInt8
 code : Int
 kind : Int
 basis : Int
 mapped : Bool
 deriving DecidableEq, Inhabited
def Role.c (x : Role) : List T := [.str x.name, .int .i64 x.code, .int .i64 x.kind, .int .i64 x.basis, .bool x.mapped]
abbrev Role.v (x : Role) : V := .agg (x.c.map .t)
abbrev Role.l (l : List Role) : V := .t (.sl (l.map Role.c))

attribute [simp] Account.c Account.v Account.l Link.c Link.v Link.l Ent.c Ent.v Ent.l Cal.c Cal.v Cal.l Roles.c Roles.v Roles.l Group.c Group.v Group.l Item.c Item.v Item.l Part.c Part.v Part.l Posting.c Posting.v Posting.l Bal.c Bal.v Bal.l Res.c Res.v Res.l Tok.c Tok.v Tok.l Ins.c Ins.v Ins.l Code.c Code.v Code.l Role.c Role.v Role.l vI vB vS tI

theorem take_next {α : Type} {l : List α} {k : Nat} {x : α} (h : l[k]? = some x) : l.take (k + 1) = l.take k ++ [x] := by
 rw [List.take_add_one, h]; rfl
theorem get_of_lt {α : Type} {l : List α} {k : Nat} (h : k < l.length) : ∃ x, l[k]? = some x := ⟨l[k], by simp [h]⟩
theorem lt_of_get {α : Type} {l : List α} {k : Nat} {x : α} (h : l[k]? = some x) : k < l.length := (List.getElem?_eq_some_iff.1 h).1
abbrev W (n : Int) : Int := IntKind.i64.wrap n
end Go.Proofs.YtmlpmdccfmmpoaaGreat
