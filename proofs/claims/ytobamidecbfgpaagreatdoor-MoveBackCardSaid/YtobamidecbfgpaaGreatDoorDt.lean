/- The data of the law in plain terms, and as the shadow's data. No condition. -/
import Derived.Test.YtobamidecbfgpaaGreatDoorShX
namespace Go.Proofs.YtobamidecbfgpaaGreatDoor
open Go Go.Sh Go.RowKit
set_option linter.unusedVariables false
set_option linter.defProp false
abbrev Str := List UInt8
structure Msg where
  seq : Nat
  body : Str
  attr : Str
  tries : Nat
  til : Nat
  dead : Bool
  why : Str
  prio : Nat
structure Sub where
  id : Nat
  name : Str
  topic : Str
  want : Str
  lease : Nat
  most : Nat
  floor : Nat
  acks : List Nat
  queue : List Msg
  note : Str
structure Sta where
  clock : Nat
  next : Nat
  last : Nat
  subs : List Sub
structure Mix where
  src : Nat
  to : Nat
  cursor : Nat
  back : Bool
structure Row where
  key : Str
  val : Str
def dMsg (m : Msg) : D := .ag [.i .i64 m.seq, .s m.body, .s m.attr, .i .i64 m.tries, .i .i64 m.til, .b m.dead, .s m.why, .i .i64 m.prio]
def iN (n : Nat) : D := .i .i64 (n : Int)
theorem iN_eq (n : Nat) : iN n = .i .i64 (n : Int) := rfl
def dInts (l : List Nat) : D := DO 1 (l.map iN) .shut
def dBytes (l : Str) : D := DO 1 (l.map byteD) .shut
def dMsgs (l : List Msg) : D := DO 8 (l.map dMsg) .shut
def dSub (x : Sub) : D := .ag [.i .i64 x.id, .s x.name, .s x.topic, .s x.want, .i .i64 x.lease, .i .i64 x.most, .i .i64 x.floor, dInts x.acks, dMsgs x.queue, .s x.note]
def dSubs (l : List Sub) : D := DO 10 (l.map dSub) .shut
def dSta (s : Sta) : D := .ag [.i .i64 s.clock, .i .i64 s.next, .i .i64 s.last, dSubs s.subs]
def dMix (m : Mix) : D := .ag [.i .i64 m.src, .i .i64 m.to, .i .i64 m.cursor, .b m.back]
def dRow (r : Row) : D := .ag [.s r.key, dBytes r.val]
def dRows (l : List Row) : D := DO 2 (l.map dRow) .shut
/-- Bytes that are read: from a place on. -/
def dR (b : Str) (n : Nat) : D := .ag [dBytes b, .i .i64 n, .b false]
/-- The functions that append to what they are handed. -/
def thr (f : Nat) : Bool := f == 24 || f == 34 || f == 67 || f == 80 || f == 81 || f == 86 || f == 87 || f == 92 || f == 93
theorem er_byte : er ∘ byteD = byteD := by funext b; simp [byteD, er]
theorem er_int : er ∘ iN = iN := by funext b; simp [iN, er]
theorem er_dBytes (l : Str) : er (dBytes l) = dBytes l := by simp [dBytes, er_DO, er_byte]
theorem er_dInts (l : List Nat) : er (dInts l) = dInts l := by simp [dInts, er_DO, er_int]
theorem er_dMsg (m : Msg) : er (dMsg m) = dMsg m := by simp [dMsg, er]
theorem er_msg : er ∘ dMsg = dMsg := by funext m; exact er_dMsg m
theorem er_dMsgs (l : List Msg) : er (dMsgs l) = dMsgs l := by simp [dMsgs, er_DO, er_msg]
theorem er_dSub (x : Sub) : er (dSub x) = dSub x := by simp [dSub, er, er_dInts, er_dMsgs]
theorem er_sub : er ∘ dSub = dSub := by funext m; exact er_dSub m
theorem er_dSubs (l : List Sub) : er (dSubs l) = dSubs l := by simp [dSubs, er_DO, er_sub]
theorem er_dSta (s : Sta) : er (dSta s) = dSta s := by simp [dSta, er, er_dSubs]
theorem er_dMix (m : Mix) : er (dMix m) = dMix m := by simp [dMix, er]
theorem er_dRow (r : Row) : er (dRow r) = dRow r := by simp [dRow, er, er_dBytes]
theorem er_row : er ∘ dRow = dRow := by funext m; exact er_dRow m
theorem er_dRows (l : List Row) : er (dRows l) = dRows l := by simp [dRows, er_DO, er_row]
theorem er_dR (b : Str) (n : Nat) : er (dR b n) = dR b n := by simp [dR, er, er_dBytes]
theorem er_i (k : IntKind) (n : Int) : er (.i k n) = .i k n := by simp [er]
theorem er_b (x : Bool) : er (.b x) = .b x := by simp [er]
theorem er_s (l : Str) : er (.s l) = .s l := by simp [er]
theorem er_nil : er .nil = .nil := by simp [er]
theorem er_byte1 (b : UInt8) : er (byteD b) = byteD b := by simp [byteD, er]
theorem er_DOb (l : Str) (o : Own) : er (DO 1 (l.map byteD) o) = dBytes l := by simp [er_DO, er_byte, dBytes]
theorem er_DOi (l : List Nat) (o : Own) : er (DO 1 (l.map iN) o) = dInts l := by simp [er_DO, er_int, dInts]
theorem er_DOm (l : List Msg) (o : Own) : er (DO 8 (l.map dMsg) o) = dMsgs l := by simp [er_DO, er_msg, dMsgs]
theorem er_DOs (l : List Sub) (o : Own) : er (DO 10 (l.map dSub) o) = dSubs l := by simp [er_DO, er_sub, dSubs]
theorem er_DOr (l : List Row) (o : Own) : er (DO 2 (l.map dRow) o) = dRows l := by simp [er_DO, er_row, dRows]
theorem erp_byte : erp ∘ byteD = byteD := by funext b; simp [byteD, erp]
theorem erp_byte1 (b : UInt8) : erp (byteD b) = byteD b := by simp [byteD, erp]
theorem erp_i (k : IntKind) (n : Int) : erp (.i k n) = .i k n := by simp [erp]
theorem erp_s (l : Str) : erp (.s l) = .s l := by simp [erp]
theorem erp_nil : erp .nil = .nil := by simp [erp]
theorem erp_DOb (l : Str) (o : Own) : erp (DO 1 (l.map byteD) o) = DO 1 (l.map byteD) o := by simp [erp_DO, erp_byte]
theorem er_sl (sz : Nat) (es : List D) (o : Own) : er (.sl sz es o) = .sl sz (es.map er) .shut := by simp [er]
theorem er_ag (cs : List D) : er (.ag cs) = .ag (cs.map er) := by simp [er]
theorem er_tu (cs : List D) : er (.tu cs) = .tu (cs.map er) := by simp [er]
theorem er_rp (d : D) : er (.rp d) = .rp (er d) := by simp [er]
theorem erp_ag (cs : List D) : erp (.ag cs) = .ag (cs.map erp) := by simp [erp]
theorem erp_b (x : Bool) : erp (.b x) = .b x := by simp [erp]
def ek := And.intro @er_dBytes <| And.intro @er_dInts <| And.intro @er_dMsg <| And.intro @er_dMsgs <| And.intro @er_dSub <| And.intro @er_dSubs <| And.intro @er_dSta <| And.intro @er_dMix <| And.intro @er_dRow <| And.intro @er_dRows <| And.intro @er_dR <| And.intro @er_i <| And.intro @er_b <| And.intro @er_s <| And.intro @er_nil <| And.intro @er_sl <| And.intro @er_ag <| And.intro @er_tu <| And.intro @er_rp <| And.intro @erp_ag <| And.intro @erp_b <| And.intro @erp_byte <| And.intro @erp_byte1 <| And.intro @erp_i <| And.intro @erp_s <| And.intro @erp_nil <| And.intro @erp_DOb <| And.intro @er_byte <| And.intro @er_int <| And.intro @er_msg <| And.intro @er_sub <| And.intro @er_row <| And.intro @er_byte1 <| And.intro @er_DOb <| And.intro @er_DOi <| And.intro @er_DOm <| And.intro @er_DOs @er_DOr
end Go.Proofs.YtobamidecbfgpaaGreatDoor
