import Derived.Test.YtfmeiapglpphpaaDoorDPTake
/- (The text moved into PTake.) -/
