import Derived.Test.YtibjkhepedfpiaaDoorSlMpA
namespace Go.Proofs.YtibjkhepedfpiaaDoor.MpC
open Go Go.RowKit Q Mem Rg Ap St BiP SeA SeC SeE SeEq SeI SeK SeP TmA TmB MpA
def frm (s:Sc):Prop:=s.priv=false∧s.version=0∧s.now=true∧s.number=0∧s.last=0
instance (s:Sc):Decidable (frm s):=by unfold frm;infer_instance
set_option maxRecDepth 100000
abbrev zc:Array Value:= #[.int .i64 0,.int .i64 0,.bool false,.bool false,.int .i64 0,.string nob]
end Go.Proofs.YtibjkhepedfpiaaDoor.MpC
